/- Walks and plain facts for the laws of membership, for all values and types that the heap holds (texts Guard B0 B1). -/
import Derived.Test.YtjgldaaofdpcgaaGreatRows
import Derived.WalkKit
import Derived.WalkLawsBesides
import Derived.WalkSpells
import Derived.Deep.QuietTactic
import Derived.BigQuiet
import Derived.Lib.Hide
import Derived.Deep.DeepFit
import Derived.DeepKeys4
import Derived.Maps.OwnOps
import Derived.Maps.OwnSet
import Derived.Laws.Tables
import Derived.Laws.Rows
import Derived.Laws.AppendOwn
import Derived.Laws.AppendOwnNone
import Derived.OwnWalk
import Derived.Deep.DeepCutAuto
import Derived.Laws.EntriesVeiled
import Derived.Deep.AppendSrc
import Derived.Test.YtjgldaaofdpcgaaGreatW02
set_option linter.unusedVariables false
set_option linter.unusedSimpArgs false
namespace Go.Lex
open Go
theorem t0q {P : Program} {Q : Exit → Act → World → Prop} {id : Nat} {ops : Array Oper} {a : Act} {w : World} (h : (Code.region id ops true).wp P Q a w) : (Code.region id ops true).wp P Q a w:=h
theorem tk4 {P : Program} {ops : Array Oper} {a : Act} {R : Prop} (h : Lex.fin P ops a = true ∧ R) : Lex.fin P ops a = true ∧ R:=h
theorem t0w {Kp : Nat → Prop} {P : Program} {ops : Array Oper} {a b : Act} {R : Prop} {lf k : Nat} {w : World} {l : List Oper} (h : Lex.fin P ops a = true ∧ LexK.finL Kp lf ops w b l k ∧ R) : Lex.fin P ops a = true ∧ LexK.finL Kp lf ops w b l k ∧ R:=h
theorem tk5 {Kp : Nat → Prop} {P : Program} {ops : Array Oper} {Q : Exit → Act → World → Prop} {l : List Oper} {a : Act} {w : World} (h : LexK.wpX Kp P ops Q l a w) : LexK.wpX Kp P ops Q l a w:=h
theorem t1b {Kp : Nat → Prop} {w w' : World} {R : Prop} (h : LexK.Ext Kp w w' ∧ R) : LexK.Ext Kp w w' ∧ R:=h
end Go.Lex
namespace Go.Proofs.YtjgldaaofdpcgaaGreat
open Go.RowKit
theorem rg {P : Program} {Q : Exit → Act → World → Prop} {id : Nat} {a : Act} {w : World} {l : List Oper} (h : wpList P l.toArray (Exit.then (fun a w=>Lex.fin P l.toArray a = true ∧ Q .normal a w) (fun _ _ _=>False)) l a w.drew) (hm : P.follows .mixedOrders = true:=by kernel_rfl) (hB : Lex.lexF P l = true:=by decide +kernel) : (Code.region id l.toArray true).wp P Q a w:=Lex.tcp hm hB h
theorem fo {P : Program} {ops : Array Oper} {a : Act} {R : Prop} (k : R) (h : Lex.fin P ops a = true:=by kernel_rfl) : Lex.fin P ops a = true ∧ R:=⟨h,k⟩
theorem qH {Kp : Nat → Prop} {P : Program} {ops : Array Oper} {Q : Exit → Act → World → Prop} {o : Oper} {rest : List Oper} {a : Act} {w : World} (h : wpList P ops (Exit.then (LexK.wpX Kp P ops Q rest) (fun _ _ _=>False)) [o] a w) (hc : (LexK.cls4 P o.op == 2) = false:=by decide +kernel) : LexK.wpX Kp P ops Q (o :: rest) a w:=LexK.tg8 hc h
theorem fE {Kp : Nat → Prop} {P : Program} {ops : Array Oper} {a : Act} {w0 : World} {lf : Nat} {l : List Oper} {R : Prop} (h2 : LexK.finL Kp lf ops w0 a l 0) (k : R) (h : Lex.fin P ops a = true:=by kernel_rfl) : Lex.fin P ops a = true ∧ LexK.finL Kp lf ops w0 a l 0 ∧ R:=⟨h,h2,k⟩
theorem zH {P : Prop} (h : P) : Hid P:=Lib.hid h
end Go.Proofs.YtjgldaaofdpcgaaGreat
namespace Go.Proofs.YtjgldaaofdpcgaaGreat
open Go.RowKit

structure Upd (b : Nat) (o : Obj) (w w' : World) : Prop where
  os : w'.os = w.os
  tape : w'.tape = w.tape
  output : w'.output = w.output
  size : w'.heap.size = w.heap.size
  blk : w'.heap[b]? = some o
  other : ∀ k,k ≠ b → w'.heap[k]? = w.heap[k]?
theorem Upd.trans {b : Nat} {o o' : Obj} {w w1 w2 : World} (h : Upd b o w w1) (k : Upd b o' w1 w2) : Upd b o' w w2 :=
  ⟨k.os.trans h.os,k.tape.trans h.tape,k.output.trans h.output,k.size.trans h.size,k.blk,fun i hi=>(k.other i hi).trans (h.other i hi)⟩
theorem Upd.refl {b : Nat} {o : Obj} {w : World} (h : w.heap[b]? = some o) : Upd b o w w:=⟨rfl,rfl,rfl,rfl,h,fun _ _=>rfl⟩
theorem Upd.drew {b : Nat} {o : Obj} {w w1 : World} (h : Upd b o w w1) : Upd b o w w1.drew:=⟨h.os,h.tape,h.output,h.size,h.blk,h.other⟩
theorem Upd.set {b i : Nat} {v : Value} {c : Array Value} {t : TypeId} {fr : Nat × Nat} {w w1 : World} (h : Upd b (.cells c t fr) w w1) : Upd b (.cells (c.setIfInBounds i v) t fr) w (w1.setCell ⟨b,i,none⟩ v):=by
  refine h.trans ⟨rfl,rfl,rfl,by simp [World.setCell],?_,?_⟩
  · simp [World.setCell,Array.getElem?_modify,h.blk]
  · intro k hk
    simp only [World.setCell,Array.getElem?_modify]
    rw [if_neg (by omega)]
theorem Upd.cast {b : Nat} {o o' : Obj} {w w' : World} (h : Upd b o w w') (e : o = o') : Upd b o' w w':=e ▸ h
theorem Upd.below {b B : Nat} {o : Obj} {w w' : World} (h : Upd b o w w') (hB : B ≤ b) : Below B w w' :=
  ⟨h.os,h.tape,h.output,by rw [h.size];exact Nat.le_refl _,fun k hk=>h.other k (by omega)⟩
theorem _root_.Go.RowKit.Below.step {w b c : World} (h : Below w.heap.size w b) (k : Below b.heap.size b c) : Below w.heap.size w c:=h.trans (k.mono h.size)
theorem t0a {w : World} {b : Nat} {o : Obj} (h : w.heap[b]? = some o) : b < w.heap.size:=(Array.getElem?_eq_some_iff.1 h).1
structure Fr (S : List Nat) (v v' : Value) (w w' : World) : Prop where
  os : w'.os = w.os
  tape : w'.tape = w.tape
  output : w'.output = w.output
  size : w.heap.size ≤ w'.heap.size
  block : ∀ k,k < w.heap.size → k ∉ S → v.ownBlock ≠ some k → w'.heap[k]? = w.heap[k]?
  own : v'.ownBlock = v.ownBlock ∨ ∀ g,v'.ownBlock = some g → w.heap.size ≤ g
theorem Fr.refl (S : List Nat) (v : Value) (w : World) : Fr S v v w w:=⟨rfl,rfl,rfl,Nat.le_refl _,fun _ _ _ _=>rfl,.inl rfl⟩
theorem Fr.trans {S : List Nat} {v v1 v2 : Value} {w w1 w2 : World} (h : Fr S v v1 w w1) (k : Fr S v1 v2 w1 w2) : Fr S v v2 w w2:=by
  refine ⟨k.os.trans h.os,k.tape.trans h.tape,k.output.trans h.output,Nat.le_trans h.size k.size,?_,?_⟩
  · intro i hi hS hv
    refine (k.block i (Nat.lt_of_lt_of_le hi h.size) hS ?_).trans (h.block i hi hS hv)
    rcases h.own with e | e
    · rw [e];exact hv
    · intro e2;have:=e i e2;omega
  · rcases k.own with e | e
    · rw [e];exact h.own
    · exact .inr fun g hg=>Nat.le_trans h.size (e g hg)
theorem Fr.of_below {S : List Nat} {v : Value} {w w' : World} (h : Below w.heap.size w w') : Fr S v v w w':=⟨h.os,h.tape,h.output,h.size,fun i hi _ _=>h.block i hi,.inl rfl⟩
theorem Fr.of_upd {S : List Nat} {v : Value} {b : Nat} {o : Obj} {w w' : World} (h : Upd b o w w') (hb : b ∈ S) : Fr S v v w w' :=
  ⟨h.os,h.tape,h.output,by rw [h.size];exact Nat.le_refl _,fun i _ hn _=>h.other i fun e=>hn (e ▸ hb),.inl rfl⟩
theorem Fr.of_grown {S : List Nat} {v v' : Value} {w w' : World} (h : w.grownBy w' v.ownBlock) (ho : v'.ownBlock = v.ownBlock ∨ ∀ g,v'.ownBlock = some g → w.heap.size ≤ g) : Fr S v v' w w' :=
  ⟨h.os,h.tape,h.output,h.size,fun i hi _ hv=>h.block i hi fun e=>hv e.symm,ho⟩
theorem Fr.drew {S : List Nat} {v v' : Value} {w w' : World} (h : Fr S v v' w w') : Fr S v v' w w'.drew:=⟨h.os,h.tape,h.output,h.size,h.block,h.own⟩
theorem Fr.mono {S T : List Nat} {v v' : Value} {w w' : World} (h : Fr S v v' w w') (hs : ∀ x ∈ S,x ∈ T) : Fr T v v' w w':=⟨h.os,h.tape,h.output,h.size,fun i hi hn=>h.block i hi fun hx=>hn (hs _ hx),h.own⟩
theorem Fr.below {S : List Nat} {B : Nat} {v v' : Value} {w w' : World} (h : Fr S v v' w w') (hB : B ≤ w.heap.size) (hS : ∀ x ∈ S,B ≤ x) (hv : ∀ g,v.ownBlock = some g → B ≤ g) : Below B w w' :=
  ⟨h.os,h.tape,h.output,h.size,fun i hi=>h.block i (by omega) (fun hx=>by have:=hS _ hx;omega) fun e=>by have:=hv _ e;omega⟩
theorem t6m {w w' : World} {b i : Nat} (h : w'.heap[b]? = w.heap[b]?) : w'.cell? ⟨b,i,none⟩ = w.cell? ⟨b,i,none⟩:=by simp [World.cell?,h]
theorem t0d {B : Nat} {w w1 : World} {b : Nat} {e : TypeId} {size n : Nat} {v : Value} {xs : List Value} (h : w.ownsRow b e size v n xs) (hB : Below B w w1) (hw : w.heap.size ≤ B) : w1.ownsRow b e size v n xs:=by
  refine ⟨h.1,?_⟩
  rcases h.2 with h2 | ⟨g,cap,cur,h3,h4,h5,h6⟩
  · exact .inl h2
  · refine .inr ⟨g,cap,cur,h3,h4,?_,h6⟩
    have:=t0a h5
    rw [hB.block g (by omega)];exact h5
theorem t3l {w w' : World} {B n : Nat} {e : TypeId} {size : Nat} {v : Value} {xs : List Value} (h : w.ownsRow B e size v n xs) (hb : ∀ g,v.ownBlock = some g → w'.heap[g]? = w.heap[g]?) : w'.ownsRow B e size v n xs:=by
  refine ⟨h.1,?_⟩
  rcases h.2 with h2 | ⟨g,cap,cur,rfl,h4,h5,h6⟩
  · exact .inl h2
  · exact .inr ⟨g,cap,cur,rfl,h4,(hb g rfl).trans h5,h6⟩
theorem t2c {w : World} {B B' n : Nat} {e : TypeId} {size : Nat} {v : Value} {xs : List Value} (h : w.ownsRow B e size v n xs) (hB : B' ≤ B) : w.ownsRow B' e size v n xs:=by
  refine ⟨h.1,?_⟩
  rcases h.2 with h2 | ⟨g,cap,cur,h3,h4,h5⟩
  · exact .inl h2
  · exact .inr ⟨g,cap,cur,h3,Nat.le_trans hB h4,h5⟩
theorem t0r {w : World} {B n : Nat} {e : TypeId} {size : Nat} {v : Value} {xs : List Value} (h : w.ownsRow B e size v n xs) : ∃ p cap,v = .slice p n cap:=by
  rcases h.2 with ⟨rfl,h0⟩ | ⟨g,cap,cur,rfl,_⟩
  · exact ⟨none,0,by rw [h0]⟩
  · exact ⟨_,_,rfl⟩
theorem tiq {w : World} {B n cap : Nat} {e : TypeId} {size : Nat} {p : Option Addr} {xs : List Value} (h : w.ownsRow B e size (.slice p n cap) n xs) (hn : 0 < n) : ∃ g,p = some ⟨g,0,none⟩:=by
  rcases h.2 with ⟨_,h0⟩ | ⟨g,c,cur,h1,_⟩
  · omega
  · simp only [Value.slice.injEq] at h1;exact ⟨g,h1.1⟩
theorem t8z {P : Program} (w : World) (base : Nat) (t ty e : TypeId) (i : TypeInfo) (z : Value) (ht : P.underlying t = some (.slice e)) (hi : P.info? e = some i) (hz : i.zero = some z)
    (v : Value) (n : Nat) (xs : List Value) (hown : w.ownsRow base e i.size v n xs)
    (a : Addr) (m c : Nat) (news : List Value) (hl : news.length = m * i.size) (hnews : ∀ j u,news[j]? = some u → w.cell? (a.add j) = some u) (h1 : ∀ u ∈ news,u.oneCell' = true) (hm : 0 < m)
    (h63 : n + m ≤ maxLen) (hbytes : (n + m) * i.bytes ≤ 140737488355328) {v' : Value} {w' : World}
    (hr : (Builtin.append_ #[t,t] ty #[v,.slice (some a) m c]).run P w = .ok v' w') : v'.ownBlock = v.ownBlock ∨ ∀ g,v'.ownBlock = some g → w.heap.size ≤ g:=by
  have hsmall : n + m ≤ 9223372036854775807:=by simp only [maxLen] at h63;omega
  rcases hown.2 with ⟨rfl,rfl⟩ | ⟨g,cap,cur,rfl,hbg,hg,hnc,hcm,hcs,htake⟩
  · have hx:=run_append_nil (P:=P) w t ty e i z ht hi hz a m c news hl hnews hm (by omega) (by have hb:=hbytes;simp only [Nat.zero_add] at hb;omega)
    rw [hx] at hr
    injection hr with h1 _
    subst h1
    exact .inr fun g hg=>by cases hg;exact Nat.le_refl _
  · by_cases hroom : n + m ≤ cap
    · have hx:=run_append_room (P:=P) w t ty e i ht hi g n cap cur hg a m c news hl hnews h1 hroom (by rw [hl,hcs,← Nat.add_mul];exact Nat.mul_le_mul_right _ hroom)
      rw [hx] at hr
      injection hr with h1 _
      subst h1
      exact .inl rfl
    · have hx:=run_append_grow (P:=P) w t ty e i z ht hi hz ⟨g,0,none⟩ n cap xs hown.1 (hown.cells (g:=g) rfl) a m c news hl hnews (by omega) (by omega) (growslice_fits (by omega) hbytes)
      rw [hx] at hr
      injection hr with h1 _
      subst h1
      exact .inr fun g hg=>by cases hg;exact Nat.le_refl _
theorem t0n {P : Program} {ops : Array Oper} {rest : List Oper} {o : Oper} {a : Act} {Q : Exit → Act → World → Prop} (hgd : o.guard = none) (s x : Operand) (t : TypeId)
    (ho : o.op = .call { callee:=.builtin .append,args:=#[s,x],argTypes:=#[t,t] }) (e : TypeId) (ht : P.underlying t = some (.slice e)) {z : Value} {size bytes : Nat}
    (hinfo : (P.info? e).map (fun i=>(i.zero,i.size,i.bytes)) = some (some z,size,bytes)) (hzs : z.cells.size = size) (hsz : 0 < size) (hby : bytes ≤ 1048576)
    (B : Nat) (wx : World) (g : Nat) (news : List Value) (hg : wx.heap[g]? = some (.cells news.toArray e)) (hB : B ≤ wx.heap.size) (hl : news.length = size) (h1 : ∀ u ∈ news,u.oneCell' = true) (v : Value) (n : Nat) (xs : List Value) (hs : a.eval s = v) (hown : wx.ownsRow B e size v n xs) (hn : n ≤ 67108864)
    (hx : a.eval x = .slice (some ⟨g,0,none⟩) 1 1)
    (h : ∀ v' w',w'.ownsRow B e size v' (n + 1) (xs ++ news) → Fr [] v v' wx w' → wpList P ops Q rest (a.put o.dst v') w') :
    wpList P ops Q (o :: rest) a wx:=by
  obtain ⟨i,hi,hz,rfl,rfl⟩:=info_parts hinfo
  have hc : ∀ j u,news[j]? = some u → wx.cell? ((⟨g,0,none⟩ : Addr).add j) = some u:=fun j u hu=>by
    have h2 : (⟨g,0,none⟩ : Addr).add j = ⟨g,j,none⟩:=by
      unfold Addr.add;split
      · rename_i e;subst e;rfl
      · simp
    rw [h2,cell_of_row _ _ _ _ _ _ hg]
    simpa using hu
  have hmb : (n + 1) * i.bytes ≤ 140737488355328:=Nat.le_trans (Nat.mul_le_mul (show n + 1 ≤ 67108865 by omega) hby) (by decide)
  refine wpList_plain hgd fun K hK=>?_
  obtain ⟨v',w',hr,h2,h3,_⟩:=run_append_own (P:=P) wx B t o.type e i z i.size i.bytes ht hi hz rfl rfl hzs hsz v n xs hown ⟨g,0,none⟩ 1 1 news (by omega) hc h1 (by unfold maxLen;omega) hmb hB
  have hw:=t8z (P:=P) wx B t o.type e i z ht hi hz v n xs hown ⟨g,0,none⟩ 1 1 news (by omega) hc h1 (by omega) (by unfold maxLen;omega) hmb hr
  unfold Oper.wp execOp
  simp only [ho,resolve,invoke,builtin,Sem.run_bind,Sem.run_pure,Result.andThen_ok,List.map_toArray,List.map_cons,List.map_nil,hs,hx,hr]
  exact hK _ _ (h v' w' h2 (Fr.of_grown h3 hw))
end Go.Proofs.YtjgldaaofdpcgaaGreat
namespace Go.Proofs.YtjgldaaofdpcgaaGreat
open Go.RowKit
set_option maxRecDepth 100000

theorem add_none (b o i : Nat) : (⟨b,o,none⟩ : Addr).add i = ⟨b,o + i,none⟩:=by
  unfold Addr.add
  split
  · rename_i h;subst h;rfl
  · rfl
def RC (w : World) (size : Nat) (A : Option Addr) (n : Nat) (cs : List Value) : Prop :=
  cs.length = n * size ∧ (0 < n → ∃ a o,A = some ⟨a,o,none⟩ ∧ a < w.heap.size ∧ ∀ (j : Nat) (u : Value),cs[j]? = some u → w.cell? ⟨a,o + j,none⟩ = some u)
theorem RC.nil (w : World) (size : Nat) (A : Option Addr) : RC w size A 0 []:=⟨by simp,fun h=>by omega⟩
theorem RC.below {w w' : World} {size n : Nat} {A : Option Addr} {cs : List Value} (h : RC w size A n cs) (hb : Below w.heap.size w w') : RC w' size A n cs :=
  ⟨h.1,fun hn=>by
    obtain ⟨a,o,h1,h2,h3⟩:=h.2 hn
    exact ⟨a,o,h1,Nat.lt_of_lt_of_le h2 hb.size,fun j u hu=>(hb.cell (p:=⟨a,_,none⟩) h2).trans (h3 j u hu)⟩⟩
theorem RC.fr {w w' : World} {size n : Nat} {A : Option Addr} {cs : List Value} (h : RC w size A n cs) (hs : w.heap.size ≤ w'.heap.size) (hb : ∀ a o,A = some ⟨a,o,none⟩ → 0 < n → w'.heap[a]? = w.heap[a]?) : RC w' size A n cs :=
  ⟨h.1,fun hn=>by
    obtain ⟨a,o,h1,h2,h3⟩:=h.2 hn
    exact ⟨a,o,h1,Nat.lt_of_lt_of_le h2 hs,fun j u hu=>(t6m (hb a o h1 hn)).trans (h3 j u hu)⟩⟩
theorem RC.row {w : World} {size n g : Nat} {e : TypeId} {cs : List Value} {arr : Array Value} (hl : cs.length = n * size) (hg : w.heap[g]? = some (.cells arr e)) (h : ∀ (j : Nat) (u : Value),cs[j]? = some u → arr[j]? = some u) : RC w size (some ⟨g,0,none⟩) n cs :=
  ⟨hl,fun _=>⟨g,0,rfl,t0a hg,fun j u hu=>by simp [World.cell?,hg,h j u hu]⟩⟩
theorem RC.of_own {w : World} {B n size cap : Nat} {e : TypeId} {p : Option Addr} {xs : List Value} (h : w.ownsRow B e size (.slice p n cap) n xs) : RC w size p n xs:=by
  refine ⟨h.1,fun hn=>?_⟩
  obtain ⟨g,rfl⟩:=tiq h hn
  refine ⟨g,0,rfl,(h.lt g rfl).2,fun j u hu=>?_⟩
  have:=h.cells (g:=g) rfl j u hu
  rw [show (⟨g,0,none⟩ : Addr).add j = ⟨g,0 + j,none⟩ from add_none g 0 j] at this
  exact this
def RT (w : World) (e : TypeId) (size : Nat) (A : Option Addr) (n : Nat) (cs : List Value) : Prop :=
  cs.length = n * size ∧ (0 < n → ∃ (a o : Nat) (arr : Array Value),A = some ⟨a,o,none⟩ ∧ w.heap[a]? = some (.cells arr e) ∧ ∀ (j : Nat) (u : Value),cs[j]? = some u → arr[o + j]? = some u)
theorem RT.nil (w : World) (e : TypeId) (size : Nat) (A : Option Addr) : RT w e size A 0 []:=⟨by simp,fun h=>by omega⟩
theorem RT.rc {w : World} {e : TypeId} {size n : Nat} {A : Option Addr} {cs : List Value} (h : RT w e size A n cs) : RC w size A n cs :=
  ⟨h.1,fun hn=>by
    obtain ⟨a,o,arr,h1,h2,h3⟩:=h.2 hn
    exact ⟨a,o,h1,t0a h2,fun j u hu=>by simp [World.cell?,h2,h3 j u hu]⟩⟩
theorem RT.keep {w w' : World} {e : TypeId} {size n : Nat} {A : Option Addr} {cs : List Value} (h : RT w e size A n cs) (hb : ∀ (a : Nat) (arr : Array Value),w.heap[a]? = some (.cells arr e) → w'.heap[a]? = w.heap[a]?) : RT w' e size A n cs :=
  ⟨h.1,fun hn=>by
    obtain ⟨a,o,arr,h1,h2,h3⟩:=h.2 hn
    exact ⟨a,o,arr,h1,(hb a arr h2).trans h2,h3⟩⟩
theorem RT.below {w w' : World} {e : TypeId} {size n : Nat} {A : Option Addr} {cs : List Value} (h : RT w e size A n cs) (hb : Below w.heap.size w w') : RT w' e size A n cs:=h.keep fun a arr ha=>hb.block a (t0a ha)
theorem tjm {P : Program} {size : Nat} {t e : TypeId} (ht : P.underlying t = some (.slice e)) {w : World} {A : Option Addr} {m c : Nat} {news : List Value} (h : RC w size A m news) (h1 : ∀ u ∈ news,u.oneCell' = true) : Src P size t (.slice A m c) m news w:=by
  cases A with
  | none =>
    have hm : m = 0:=by
      rcases Nat.eq_zero_or_pos m with h0 | h0
      · exact h0
      · obtain ⟨a,o,e1,_⟩:=h.2 h0;cases e1
    subst hm
    have hl : news = []:=List.length_eq_zero_iff.1 (by have:=h.1;omega)
    subst hl
    exact Src.ofNil w ht c
  | some ad =>
    refine Src.ofSlice w ht ad m c news h.1 ?_ h1
    intro j u hu
    have h0 : 0 < m:=by
      rcases Nat.eq_zero_or_pos m with h0 | h0
      · have:=h.1;rw [h0,Nat.zero_mul] at this
        rw [List.getElem?_eq_none (by omega)] at hu;cases hu
      · exact h0
    obtain ⟨a,o,e1,_,h3⟩:=h.2 h0
    cases e1
    rw [add_none]
    exact h3 j u hu
theorem tav {P : Program} (w : World) (t tx ty e : TypeId) (i : TypeInfo) (ht : P.underlying t = some (.slice e)) (hi : P.info? e = some i) (A : Option Addr) (n c : Nat) (hnc : n ≤ c) (x : Value) (hs : Src P i.size tx x 0 [] w) :
    (Builtin.append_ #[t,tx] ty #[.slice A n c,x]).run P w = .ok (.slice A n c) w:=by
  have h1:=hs.cells
  cases A <;> rcases hs.kind with ⟨e',hk⟩ | hk <;> simp [Builtin.append_,run_underlying ht,run_underlying hk,sizeOf,typeInfo,hi,hs.len,hnc,h1,storeCells]
theorem t0x {P : Program} {ops : Array Oper} {rest : List Oper} {o : Oper} {a : Act} {Q : Exit → Act → World → Prop} (hgd : o.guard = none) (s x : Operand) (t : TypeId)
    (ho : o.op = .call { callee:=.builtin .append,args:=#[s,x],argTypes:=#[t,t] }) (e : TypeId) (ht : P.underlying t = some (.slice e)) {z : Value} {size bytes : Nat}
    (hinfo : (P.info? e).map (fun i=>(i.zero,i.size,i.bytes)) = some (some z,size,bytes)) (hzs : z.cells.size = size) (hsz : 0 < size) (hby : bytes ≤ 1048576)
    (B : Nat) (wx : World) (A2 : Option Addr) (n m c2 : Nat) (xs news : List Value) (hB : B ≤ wx.heap.size) (v : Value) (hs : a.eval s = v) (hx : a.eval x = .slice A2 m c2) (hown : wx.ownsRow B e size v n xs) (h2 : RC wx size A2 m news) (hone : ∀ u ∈ news,u.oneCell' = true)
    (hbound : n + m ≤ 67108864)
    (h : ∀ v' w',w'.ownsRow B e size v' (n + m) (xs ++ news) → Fr [] v v' wx w' → wpList P ops Q rest (a.put o.dst v') w') :
    wpList P ops Q (o :: rest) a wx:=by
  obtain ⟨i,hi,hz,rfl,rfl⟩:=info_parts hinfo
  refine wpList_plain hgd fun K hK=>?_
  by_cases hm : m = 0
  · subst hm
    have hl : news = []:=List.length_eq_zero_iff.1 (by have:=h2.1;omega)
    subst hl
    obtain ⟨p,cap,rfl⟩:=t0r hown
    have hnc : n ≤ cap:=by
      rcases hown.2 with ⟨e1,h0⟩ | ⟨g,cap',cur,e1,_,_,h3,_⟩
      · omega
      · cases e1;exact h3
    have hr:=tav (P:=P) wx t t o.type e i ht hi p n cap hnc _ (tjm (c:=c2) ht h2 hone)
    unfold Oper.wp execOp
    simp only [ho,resolve,invoke,builtin,Sem.run_bind,Sem.run_pure,Result.andThen_ok,List.map_toArray,List.map_cons,List.map_nil,hs,hx,hr]
    exact hK _ _ (h _ wx (by simpa using hown) (Fr.refl _ _ _))
  · obtain ⟨b,off,rfl,hb,hcell⟩:=h2.2 (by omega)
    have hc : ∀ (j : Nat) (u : Value),news[j]? = some u → wx.cell? ((⟨b,off,none⟩ : Addr).add j) = some u:=fun j u hu=>by rw [add_none];exact hcell j u hu
    have hmb : (n + m) * i.bytes ≤ 140737488355328:=Nat.le_trans (Nat.mul_le_mul hbound hby) (by decide)
    obtain ⟨v',w',hr,h3,h4,_⟩:=run_append_own (P:=P) wx B t o.type e i z i.size i.bytes ht hi hz rfl rfl hzs hsz v n xs hown ⟨b,off,none⟩ m c2 news h2.1 hc hone (by unfold maxLen;omega) hmb hB
    have hw : v'.ownBlock = v.ownBlock ∨ ∀ g,v'.ownBlock = some g → wx.heap.size ≤ g:=t8z (P:=P) wx B t o.type e i z ht hi hz v n xs hown ⟨b,off,none⟩ m c2 news h2.1 hc hone (by omega) (by unfold maxLen;omega) hmb hr
    unfold Oper.wp execOp
    simp only [ho,resolve,invoke,builtin,Sem.run_bind,Sem.run_pure,Result.andThen_ok,List.map_toArray,List.map_cons,List.map_nil,hs,hx,hr]
    exact hK _ _ (h v' w' h3 (Fr.of_grown h4 hw))
def ic (xs : List Int) : List Value:=xs.map fun x=>.int .i64 x
theorem t9a (xs : List Int) : (ic xs).length = xs.length:=by simp [ic]
theorem tga (xs : List Int) : ∀ u ∈ ic xs,u.oneCell' = true:=fun u hu=>by
  obtain ⟨x,_,rfl⟩:=List.mem_map.1 hu;rfl
def IS (w : World) (v : Value) (xs : List Int) : Prop:=∃ p c,v = .slice p xs.length c ∧ xs.length ≤ c ∧ RC w 1 p xs.length (ic xs)
theorem IS.below {w w' : World} {v : Value} {xs : List Int} (h : IS w v xs) (hb : Below w.heap.size w w') : IS w' v xs:=by
  obtain ⟨p,c,h1,h2,h3⟩:=h;exact ⟨p,c,h1,h2,h3.below hb⟩
theorem IS.nil (w : World) : IS w (.slice none 0 0) []:=⟨none,0,rfl,by simp,RC.nil _ _ _⟩
theorem IS.at {w : World} {p : Option Addr} {n c : Nat} {xs : List Int} (h : IS w (.slice p n c) xs) {k : Nat} (hk : k < xs.length) : n = xs.length ∧ ∃ a o,p = some ⟨a,o,none⟩ ∧ a < w.heap.size ∧ w.cell? ⟨a,o + k,none⟩ = some (.int .i64 xs[k]):=by
  obtain ⟨p',c',h1,h2,h3⟩:=h
  simp only [Value.slice.injEq] at h1
  obtain ⟨rfl,rfl,rfl⟩:=h1
  obtain ⟨a,o,e1,e2,e3⟩:=h3.2 (by omega)
  exact ⟨rfl,a,o,e1,e2,e3 k _ (by simp [ic,hk])⟩
def I3 (w : World) (v : Value) (xs : List Int) : Prop:=∃ p c,v = .slice p xs.length c ∧ xs.length ≤ c ∧ RT w 3 1 p xs.length (ic xs)
theorem I3.is {w : World} {v : Value} {xs : List Int} (h : I3 w v xs) : IS w v xs:=by obtain ⟨p,c,h1,h2,h3⟩:=h;exact ⟨p,c,h1,h2,h3.rc⟩
theorem I3.keep {w w' : World} {v : Value} {xs : List Int} (h : I3 w v xs) (hb : ∀ (a : Nat) (arr : Array Value),w.heap[a]? = some (.cells arr 3) → w'.heap[a]? = w.heap[a]?) : I3 w' v xs:=by obtain ⟨p,c,h1,h2,h3⟩:=h;exact ⟨p,c,h1,h2,h3.keep hb⟩
theorem I3.below {w w' : World} {v : Value} {xs : List Int} (h : I3 w v xs) (hb : Below w.heap.size w w') : I3 w' v xs:=h.keep fun a arr ha=>hb.block a (t0a ha)
theorem I3.nil (w : World) : I3 w (.slice none 0 0) []:=⟨none,0,rfl,by simp,RT.nil _ _ _ _⟩
theorem own_ne' {w : World} {B n b size : Nat} {e : TypeId} {v : Value} {xs : List Value} {cs : Array Value} {t : TypeId} {fr : Nat × Nat} (h : w.ownsRow B e size v n xs) (hb : w.heap[b]? = some (.cells cs t fr)) (ht : t ≠ e) : v.ownBlock ≠ some b:=fun e1=>by
  rcases h.2 with ⟨rfl,_⟩ | ⟨g,cap,cur,rfl,h4,h5,_⟩
  · cases e1
  · cases e1;rw [h5] at hb;simp at hb;exact ht hb.2.1.symm
end Go.Proofs.YtjgldaaofdpcgaaGreat
