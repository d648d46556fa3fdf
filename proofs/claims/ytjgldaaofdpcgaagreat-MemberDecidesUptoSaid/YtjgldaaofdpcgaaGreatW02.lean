/- Walks and plain facts for the laws of membership, for all values and types that the heap holds (texts LexK). -/
import Derived.Test.YtjgldaaofdpcgaaGreatW01
set_option linter.unusedVariables false
set_option linter.unusedSimpArgs false
namespace Go.LexK
open Go Go.Lex

def Ext (Kp : Nat → Prop) (w w' : World) : Prop:=w.heap.size ≤ w'.heap.size ∧ ∀ b,b < w.heap.size → Kp b → w'.heap[b]? = w.heap[b]?
theorem Ext.refl {Kp : Nat → Prop} (w : World) : Ext Kp w w:=⟨Nat.le_refl _,fun _ _ _=>rfl⟩
theorem Ext.size {Kp : Nat → Prop} {w w' : World} (h : Ext Kp w w') : w.heap.size ≤ w'.heap.size:=h.1
theorem Ext.trans {Kp : Nat → Prop} {a b c : World} (h : Ext Kp a b) (k : Ext Kp b c) : Ext Kp a c:=⟨Nat.le_trans h.1 k.1,fun i hi hk=>(k.2 i (Nat.lt_of_lt_of_le hi h.1) hk).trans (h.2 i hi hk)⟩
theorem Ext.alloc {Kp : Nat → Prop} (w : World) (o : Obj) : Ext Kp w (w.alloc o):=⟨by show w.heap.size ≤ (w.heap.push o).size;simp,fun b hb _=>by
  show (w.heap.push o)[b]? = _
  rw [Array.getElem?_push,if_neg (by omega)]⟩
theorem Ext.of_below {Kp : Nat → Prop} {w w' : World} {B : Nat} (h : RowKit.Below B w w') (hB : w.heap.size ≤ B) : Ext Kp w w':=⟨h.size,fun b hb _=>h.block b (by omega)⟩
theorem Ext.cell {Kp : Nat → Prop} {w w' : World} (h : Ext Kp w w') {a : Addr} {v : Value} (hk : Kp a.block) (hv : w.cell? a = some v) : ∀ x : Addr,x.block = a.block → w'.cell? x = w.cell? x:=by
  intro x hx
  have hlt : a.block < w.heap.size:=by
    rcases Nat.lt_or_ge a.block w.heap.size with h' | h'
    · exact h'
    · simp [World.cell?,Array.getElem?_eq_none h'] at hv
  unfold World.cell?
  rw [hx,h.2 _ hlt hk]
section
variable {Kp : Nat → Prop} {P : Program} {ops : Array Oper} {Q : Exit → Act → World → Prop} {md : Region.Mode}
def cls4 (P : Program) (o : Op) : Nat :=
  if cls P o = 2 then (match o with
    | .call { callee:=.value _,args:=_,argTypes:=_ } | .call { callee:=.builtin .append,args:=_,argTypes:=_ } | .alloc _ | .box .. | .buildSlice .. | .makeSlice .. | .makeMap ..=>2
    | _=>3)
  else cls P o
theorem t5x {o : Op} (h : cls4 P o = 0) : cls P o = 0:=by
  unfold cls4 at h;split at h
  · split at h <;> cases h
  · exact h
theorem t7i {o : Op} (h : cls4 P o = 1) : cls P o = 1:=by
  unfold cls4 at h;split at h
  · split at h <;> cases h
  · exact h
def t4o (Kp : Nat → Prop) (w0 : World) (ρ : Operand → Value) : Op → Prop
  | .load _ x=>∃ b o v,ρ x = .pointer (some ⟨b,o,none⟩) ∧ Kp b ∧ w0.cell? ⟨b,o,none⟩ = some v
  | _=>True
def YC (Kp : Nat → Prop) (P : Program) (ops : Array Oper) (w0 : World) (o : Oper) (v : Value) (a : Act) : Prop :=
  (Region.wanted o (yielded ops a.tmps) = true ∧ ∀ w,Ext Kp w0 w → (execOp a.eval o).run P w = .ok (.value v) w) ∨ (Region.wanted o (yielded ops a.tmps) = false ∧ v = undef)
theorem YC.of_yields {w0 : World} {o : Oper} {v : Value} {a : Act} (h : Yields P ops o v a) : YC Kp P ops w0 o v a:=by
  rcases h with ⟨h1,h2⟩ | h
  · exact .inl ⟨h1,fun w _=>h2 w⟩
  · exact .inr h
theorem YC.of_same {w0 : World} {o : Oper} {v : Value} {a a' : Act} (hy : YC Kp P ops w0 o v a) (he : execOp a'.eval o = execOp a.eval o) (hw : Region.wanted o (yielded ops a'.tmps) = Region.wanted o (yielded ops a.tmps)) : YC Kp P ops w0 o v a':=by
  unfold YC at *
  rw [he,hw]
  exact hy
theorem tho {t : TypeId} {x : Value} {w0 : World} {b o : Nat} {u : Value} (hx : x = .pointer (some ⟨b,o,none⟩)) (hkp : Kp b) (hu : w0.cell? ⟨b,o,none⟩ = some u) {w1 : World} (h1 : Ext Kp w0 w1) {v : Value} {w' : World} (hr : (Instr.loadAt t x).run P w1 = .ok v w') :
    ∀ w,Ext Kp w0 w → (Instr.loadAt t x).run P w = .ok v w:=by
  intro w hw
  subst hx
  have hc : ∀ i,w.cell? ((⟨b,o,none⟩ : Addr).add i) = w1.cell? ((⟨b,o,none⟩ : Addr).add i):=fun i=>by
    have hb : ((⟨b,o,none⟩ : Addr).add i).block = b:=by unfold Addr.add;split <;> rfl
    rw [hw.cell hkp hu _ hb,h1.cell hkp hu _ hb]
  have hc0 : w.cell? ⟨b,o,none⟩ = w1.cell? ⟨b,o,none⟩:=by rw [hw.cell hkp hu _ rfl,h1.cell hkp hu _ rfl]
  have hs0 : w1.cell? ⟨b,o,none⟩ = some u:=by rw [h1.cell hkp hu _ rfl,hu]
  have hnf : ∀ (w2 : World),Ext Kp w0 w2 → ∀ (y : Addr) (m : Bool),y.block = b → w2.cell? y = none → ∃ e,World.farLoad P w2 y m = .error e:=by
    intro w2 h2 y m hy hn
    have hlt : b < w0.heap.size:=by
      rcases Nat.lt_or_ge b w0.heap.size with h' | h'
      · exact h'
      · simp [World.cell?,Array.getElem?_eq_none h'] at hu
    unfold World.farLoad
    rw [hy,h2.2 b hlt hkp]
    unfold World.cell? at hu
    cases hb : w0.heap[b]? with
    | none=>simp [hb] at hu
    | some ob =>
      cases ob <;> simp [hb] at hu
      exact ⟨_,rfl⟩
  have cellsRun : ∀ (n i : Nat) (acc : Array Value) (r : Array Value) (wr : World),(loadCellsFrom ⟨b,o,none⟩ i n acc).run P w1 = .ok r wr → (loadCellsFrom ⟨b,o,none⟩ i n acc).run P w = .ok r w:=by
    intro n
    induction n with
    | zero=>intro i acc r wr h;simp [loadCellsFrom] at h ⊢;exact h.1
    | succ n ih =>
      intro i acc r wr h
      unfold loadCellsFrom at h ⊢
      rw [Sem.run_bind] at h ⊢
      obtain ⟨z,w2,hz,hk⟩:=andThen_ok h
      have hw2 : w2 = w1:=t7y _ _ _ _ _ hz
      subst hw2
      have hb : ((⟨b,o,none⟩ : Addr).add i).block = b:=by unfold Addr.add;split <;> rfl
      simp only [load,Sem.run] at hz
      cases hcy : w2.cell? ((⟨b,o,none⟩ : Addr).add i) with
      | none =>
        rw [hcy] at hz
        obtain ⟨e,he⟩:=hnf w2 h1 _ (Mode.plain == Mode.atomic) hb hcy
        rw [he] at hz
        simp at hz
      | some z' =>
        rw [hcy] at hz
        cases hz
        simp only [load,Sem.run,(hc i).trans hcy,Result.andThen]
        exact ih _ _ _ _ hk
  unfold Instr.loadAt Instr.sureAddr loadVar at hr ⊢
  rw [Sem.run_bind] at hr ⊢
  simp only [Sem.run_pure,Result.andThen] at hr ⊢
  rw [Sem.run_bind] at hr ⊢
  obtain ⟨ag,w2,hag,hk0⟩:=andThen_ok hr
  obtain ⟨e1,hag'⟩:=t7f t _ _ _ hag
  subst e1
  clear hr
  rw [hag' w]
  simp only [Result.andThen]
  split at hk0
  · rename_i hagt
    rw [if_pos hagt]
    rw [Sem.run_bind] at hk0 ⊢
    obtain ⟨n,w3,hn,hk1⟩:=andThen_ok hk0
    obtain ⟨e2,hn'⟩:=t1y t _ _ _ hn
    subst e2
    clear hk0
    rw [hn' w]
    simp only [Result.andThen]
    rw [Sem.run_bind] at hk1 ⊢
    obtain ⟨cs,w4,hcs,hk2⟩:=andThen_ok hk1
    rw [show (loadCells ⟨b,o,none⟩ n).run P w = .ok cs w from cellsRun _ _ _ _ _ hcs]
    simp only [Result.andThen]
    simp at hk2 ⊢
    exact hk2.1
  · rename_i hagt
    rw [if_neg hagt]
    simp only [load,Sem.run,hc0,hs0] at hk0 ⊢
    cases hk0
    rfl
def wpOpX (Kp : Nat → Prop) (P : Program) (ops : Array Oper) (Q : Exit → Act → World → Prop) (i : Nat) (K : Act → World → Prop) (a : Act) (w : World) : Prop :=
  wpOp P ops Q i (fun a' w'=>(((ops[i]?).map fun o=>cls4 P o.op) = some 2 → Ext Kp w w') ∧ K a' w') a w
theorem tfe {i : Nat} {K K' : Act → World → Prop} {a : Act} {w : World} (h : ∀ a w,K a w → K' a w) (hh : wpOpX Kp P ops Q i K a w) : wpOpX Kp P ops Q i K' a w :=
  wpOp_mono (fun _ _ x=>⟨x.1,h _ _ x.2⟩) hh
theorem t8b {i : Nat} {K : Act → World → Prop} {a : Act} {w : World} (hh : wpOpX Kp P ops Q i K a w) : wpOp P ops Q i K a w:=wpOp_mono (fun _ _ x=>x.2) hh
def t6r (Kp : Nat → Prop) (P : Program) (md : Region.Mode) (ops : Array Oper) (Q : Exit → Act → World → Prop) : Nat → Array Bool → Act → World → Prop
  | 0,listed,a,w=>Region.ready md ops listed = [] ∧ Q .normal a w
  | fuel + 1,listed,a,w =>
    (Region.ready md ops listed = [] → Q .normal a w) ∧
    ∀ i ∈ Region.ready md ops listed,wpOpX Kp P ops Q i (t6r Kp P md ops Q fuel (listed.setIfInBounds i true)) a w
theorem t8c : ∀ (fuel : Nat) (listed : Array Bool) (a : Act) (w : World),t6r Kp P md ops Q fuel listed a w → wpAny P md ops Q fuel listed a w
  | 0,_,_,_,h=>h
  | fuel + 1,_,_,_,h=>⟨h.1,fun i hi=>wpOp_mono (fun _ _ x=>t8c fuel _ _ _ x) (t8b (h.2 i hi))⟩
theorem t6g (hQ : Shut Q) {i : Nat} {o : Oper} (hi : ops[i]? = some o) {K : Act → World → Prop} {a : Act} {w : World} (hy : Region.wanted o (yielded ops a.tmps) = true → t5c P (execOp a.eval o)) (h : wpOp P ops Q i K a w) :
    wpOp P ops Q i (fun a' w'=>w' = w ∧ K a' w') a w:=by
  unfold wpOp at *
  simp only [hi] at *
  split
  · rename_i hw
    simp only [hw,if_true] at h
    rcases h with h | ⟨_,a0,w0,h⟩
    case inr=>exact absurd h (hQ.room _ _)
    refine .inl ?_
    unfold Oper.wp at *
    cases hr : (execOp a.eval o).run P w with
    | ok n w' =>
      obtain ⟨rfl,v,rfl⟩:=hy hw _ _ _ hr
      rw [hr] at h
      exact ⟨by first | rfl | trivial,h⟩
    | halt x w' =>
      rw [hr] at h
      cases x <;> simp only [Oper.upon] at h
      exact absurd h (hQ.panic _ _ _)
  · rename_i hw
    simp only [hw] at h
    exact ⟨by first | rfl | trivial,h⟩
theorem tg6 {j : Nat} {oi oj : Oper} {v : Value} {Y : Act → Prop} (hY : ∀ a a',execOp a'.eval oi = execOp a.eval oi → Region.wanted oi (yielded ops a'.tmps) = Region.wanted oi (yielded ops a.tmps) → Y a → Y a') (hQ : Shut Q) (hj : ops[j]? = some oj) (hap : oi.apart ops oj = true)
    (hsi : ∀ cs b,oi.op ≠ .select cs b) (hsj : ∀ cs b,oj.op ≠ .select cs b) {K : Act → World → Prop} {a : Act} {w : World} (hy : Y a) (h : wpOp P ops Q j K (a.put oi.dst v) w) :
    wpOp P ops Q j (fun a' w'=>Y a' ∧ K (a'.put oi.dst v) w') a w:=by
  obtain ⟨h1,h2,h3⟩:=Oper.apart_spec hap
  have keep : ∀ (a : Act),Y a → ∀ u,Y (a.put oj.dst u):=fun a hy u=>hY _ _ (execOp_put oi hsi a oj.dst u h3) (wanted_put oi a oj.dst u h3) hy
  have keepD : ∀ d,Y { a with defers:=d :: a.defers }:=fun d=>hY a { a with defers:=d :: a.defers } rfl rfl hy
  unfold wpOp at *
  simp only [hj] at *
  rw [wanted_put oj a oi.dst v h1] at h
  split
  · rename_i hw
    simp only [hw,if_true] at h
    rcases h with h | ⟨_,a0,w0,h⟩
    case inr=>exact absurd h (hQ.room _ _)
    refine .inl ?_
    unfold Oper.wp at *
    rw [execOp_put oj hsj a oi.dst v h1] at h
    generalize (execOp a.eval oj).run P w = r at *
    cases r with
    | ok n w' =>
      cases n <;> simp only [Oper.upon] at h ⊢
      case value u=>exact ⟨keep a hy u,by rw [← Act.put_comm a v u h2];exact h⟩
      case skip=>exact ⟨keep a hy _,by rw [← Act.put_comm a v undef h2];exact h⟩
      case defer d =>
        refine ⟨keep _ (keepD d) _,?_⟩
        rw [← Act.put_comm _ v undef h2,← Act.put_defers]
        exact h
      case enter f args =>
        refine Calls.mono h fun e w'' he=>?_
        cases e with
        | returned u=>exact ⟨keep a hy u,by rw [← Act.put_comm a v u h2];exact he⟩
        | panicked c=>exact absurd he (hQ.panic _ _ _)
        | outgrown=>exact he
      case row row args=>exact Rows.mono h fun u w'' he=>⟨keep a hy u,by rw [← Act.put_comm a v u h2];exact he⟩
    | halt x w' =>
      cases x <;> simp only [Oper.upon] at h ⊢
      case panic u=>exact absurd h (hQ.panic _ _ _)
  · rename_i hw
    simp only [hw] at h
    exact ⟨keep a hy _,by rw [← Act.put_comm a v undef h2];exact h⟩
theorem YC.wpOp {w0 : World} {i : Nat} {o : Oper} {v : Value} {a : Act} (hi : ops[i]? = some o) (hy : YC Kp P ops w0 o v a) {K : Act → World → Prop} {w : World} (hw : Ext Kp w0 w) (h : K (a.put o.dst v) w) : wpOp P ops Q i K a w:=by
  unfold Go.wpOp
  simp only [hi]
  rcases hy with ⟨hwa,hv⟩ | ⟨hwa,rfl⟩
  · simp only [hwa,if_true,Oper.wp,hv w hw,Oper.upon];exact .inl h
  · simp only [hwa,Bool.false_eq_true,if_false];exact h
theorem YC.out (hQ : Shut Q) {w0 : World} {i : Nat} {o : Oper} {v : Value} {a : Act} (hi : ops[i]? = some o) (hy : YC Kp P ops w0 o v a) {K : Act → World → Prop} {w : World} (hw : Ext Kp w0 w) (h : Go.wpOp P ops Q i K a w) : K (a.put o.dst v) w:=by
  unfold Go.wpOp at h
  simp only [hi] at h
  rcases hy with ⟨hwa,hv⟩ | ⟨hwa,rfl⟩
  · simp only [hwa,if_true,Oper.wp,hv w hw,Oper.upon] at h
    exact h.elim id fun ⟨_,a0,w0,hx⟩=>absurd hx (hQ.room _ _)
  · simp only [hwa] at h
    exact h
theorem tg7 {op : Op} (h : cls P op = 1) : ∃ t x,op = .load t x:=by
  cases op
  case load t x=>exact ⟨t,x,rfl⟩
  case fieldAddr=>simp only [cls] at h;split at h <;> exact absurd h (by decide)
  case binOp=>simp only [cls] at h;split at h <;> exact absurd h (by decide)
  case convert=>simp only [cls] at h;split at h <;> exact absurd h (by decide)
  case unOp op _ _=>cases op <;> simp only [cls] at h <;> exact absurd h (by decide)
  case call c =>
    obtain ⟨callee,args,ts⟩:=c
    cases callee with
    | value f=>exact absurd h (by simp [cls])
    | invoke r m=>exact absurd h (by simp [cls])
    | builtin b=>cases b <;> simp only [cls] at h <;> first | exact absurd h (by decide) | (split at h <;> exact absurd h (by decide))
  all_goals exact absurd h (by simp [cls])
theorem tep (hQ : Shut Q) {w0 : World} {i : Nat} {o : Oper} (hi : ops[i]? = some o) (hc : cls P o.op = 1) {a : Act} (hf : Region.wanted o (yielded ops a.tmps) = true → t4o Kp w0 a.eval o.op) {K : Act → World → Prop} {w : World} (hw : Ext Kp w0 w) (h : Go.wpOp P ops Q i K a w) :
    ∃ v,YC Kp P ops w0 o v a:=by
  by_cases hwa : Region.wanted o (yielded ops a.tmps) = true
  · obtain ⟨dst,op,type,pos,after,guard⟩:=o
    cases op with
    | load t x =>
      obtain ⟨b,of,u,hx,hu⟩:=hf hwa
      unfold Go.wpOp at h
      simp only [hi,hwa,if_true] at h
      rcases h with h | ⟨_,a0,w1,h⟩
      case inr=>exact absurd h (hQ.room _ _)
      unfold Oper.wp at h
      have hex : execOp a.eval ⟨dst,.load t x,type,pos,after,guard⟩ = (do pure (.value (← Instr.loadAt t (a.eval x))) : Sem Next):=rfl
      rw [hex,Sem.run_bind] at h
      cases hr : (Instr.loadAt t (a.eval x)).run P w with
      | ok v w' =>
        refine ⟨v,.inl ⟨hwa,fun w2 h2=>?_⟩⟩
        rw [hex,Sem.run_bind,tho hx hu.1 hu.2 hw hr w2 h2]
        simp [Result.andThen]
      | halt y w' =>
        rw [hr] at h
        simp only [Result.andThen] at h
        cases y <;> simp only [Oper.upon] at h
        exact absurd h (hQ.panic _ _ _)
    | _=>exact absurd (tg7 hc) (by simp)
  · exact ⟨undef,.inr ⟨by simpa using hwa,rfl⟩⟩
def commX (P : Program) (oi oj : Op) (lfi lfj : Bool) : Bool :=
  let ci:=cls4 P oi
  let cj:=cls4 P oj
  ci == 0 || cj == 0 || (ci == 1 && cj == 1) || (ci == 1 && lfi && cj == 2) || (ci == 2 && cj == 1 && lfj)
theorem swapX {i j : Nat} {oi oj : Oper} {lfi lfj : Bool} {w0 : World} (hQ : Shut Q) (hi : ops[i]? = some oi) (hj : ops[j]? = some oj) (hap : oi.apart ops oj = true)
    (hsi : ∀ cs b,oi.op ≠ .select cs b) (hsj : ∀ cs b,oj.op ≠ .select cs b) (hc : commX P oi.op oj.op lfi lfj = true) {K : Act → World → Prop} {a : Act} {w : World}
    (hoi : cls P oi.op = 0 → Region.wanted oi (yielded ops a.tmps) = true → okAt a.eval oi.op = true) (hoj : cls P oj.op = 0 → Region.wanted oj (yielded ops a.tmps) = true → okAt a.eval oj.op = true)
    (hfi : lfi = true → Ext Kp w0 w ∧ (Region.wanted oi (yielded ops a.tmps) = true → t4o Kp w0 a.eval oi.op)) (hfj : lfj = true → Ext Kp w0 w ∧ (Region.wanted oj (yielded ops a.tmps) = true → t4o Kp w0 a.eval oj.op))
    (h : wpOpX Kp P ops Q i (wpOpX Kp P ops Q j K) a w) : wpOpX Kp P ops Q j (wpOpX Kp P ops Q i K) a w:=by
  obtain ⟨h1,h2,h3⟩:=Oper.apart_spec hap
  have ei : ((ops[i]?).map fun o=>cls4 P o.op) = some (cls4 P oi.op):=by rw [hi];rfl
  have ej : ((ops[j]?).map fun o=>cls4 P o.op) = some (cls4 P oj.op):=by rw [hj];rfl
  by_cases ci : cls4 P oi.op = 0
  · obtain ⟨v,hy,hk⟩:=t6x hQ hi (t5x ci) (hoi (t5x ci)) h
    have:=wpOp_put hj hap hsi hsj (fun c a w x=>absurd x (hQ.panic _ _ _)) hy hk.2
    exact wpOp_mono (fun a' w' ⟨hy',hk'⟩=>⟨hk'.1,hy'.wpOp hi ⟨(fun he=>by rw [ei,ci] at he;cases he),hk'.2⟩⟩) this
  by_cases cj : cls4 P oj.op = 0
  · have hx:=t2w hi h
    obtain ⟨a1,w1,hk,htu⟩:=t3c hQ hi hx
    have key : ∀ a1,taq oi a a1 → execOp a1.eval oj = execOp a.eval oj ∧ Region.wanted oj (yielded ops a1.tmps) = Region.wanted oj (yielded ops a.tmps) ∧ okAt a1.eval oj.op = okAt a.eval oj.op:=by
      rintro a1 ⟨u,hu⟩
      have e1 : a1.eval = (a.put oi.dst u).eval:=by funext x;cases x <;> simp [Act.eval,hu]
      rw [e1,hu]
      refine ⟨execOp_put oj hsj a oi.dst u h1,wanted_put oj a oi.dst u h1,t7z _ fun x hx=>Act.eval_put fun d hd hxd=>h1 d hd (by
          subst hxd
          exact List.mem_append_left _ (List.mem_filterMap.2 ⟨.tmp d,by simpa using hx,rfl⟩))⟩
    have k1:=key a1 htu
    obtain ⟨v,hy,_⟩:=t6x hQ hj (t5x cj) (fun hw=>by rw [k1.2.2];exact hoj (t5x cj) (k1.2.1 ▸ hw)) hk.2
    have hya : Yields P ops oj v a:=hy.of_same k1.1.symm k1.2.1.symm
    refine hya.wpOp hj ⟨(fun he=>by rw [ej,cj] at he;cases he),t6p hQ hi hsi h3 h2 ?_⟩
    refine wpOp_mono (fun a' w' ⟨hk',ht'⟩=>?_) hx
    have k2:=key a' ht'
    have hy' : YC Kp P ops w' oj v a':=.of_yields (hya.of_same k2.1 k2.2.1)
    exact ⟨hk'.1,(hy'.out hQ hj (Ext.refl _) hk'.2).2⟩
  have hc' : (cls4 P oi.op = 1 ∧ cls4 P oj.op = 1) ∨ (cls4 P oi.op = 1 ∧ lfi = true ∧ cls4 P oj.op = 2) ∨ (cls4 P oi.op = 2 ∧ cls4 P oj.op = 1 ∧ lfj = true):=by
    simp [commX,ci,cj] at hc
    rcases hc with (hc | hc) | hc
    · exact .inl hc
    · exact .inr (.inl ⟨hc.1.1,hc.1.2,hc.2⟩)
    · exact .inr (.inr ⟨hc.1.1,hc.1.2,hc.2⟩)
  rcases hc' with ⟨c1,c2⟩ | ⟨c1,l1,c2⟩ | ⟨c1,c2,l2⟩
  · -- both only look
    have h' : wpOp P ops Q i (wpOp P ops Q j K) a w:=wpOp_mono (fun _ _ x=>t8b x) (t8b h)
    have hs:=swap hQ hi hj hap hsi hsj (by simp [comm,t7i c1,t7i c2]) hoi hoj h'
    refine wpOp_mono (fun a' w' hk=>⟨(fun he=>by rw [ej,c2] at he;cases he),wpOp_mono (fun a'' w'' hk2=>⟨(fun he=>by rw [ei,c1] at he;cases he),hk2⟩) hk⟩) hs
  · -- a load,then a call
    obtain ⟨hw0,hfit⟩:=hfi l1
    obtain ⟨v,hy⟩:=tep hQ hi (t7i c1) hfit hw0 h
    have hk:=hy.out hQ hi hw0 h
    have:=tg6 (Y:=YC Kp P ops w0 oi v) (fun a a' e1 e2 hy=>hy.of_same e1 e2) hQ hj hap hsi hsj hy hk.2
    refine wpOp_mono (fun a' w' ⟨hy',hk'⟩=>⟨hk'.1,hy'.wpOp hi (hw0.trans (hk'.1 (by rw [ej,c2]))) ⟨(fun he=>by rw [ei,c1] at he;cases he),hk'.2⟩⟩) this
  · -- a call,then a load
    obtain ⟨hw0,hfit⟩:=hfj l2
    have hx:=t2w hi h
    obtain ⟨a1,w1,hk,htu⟩:=t3c hQ hi hx
    have key : ∀ a1,taq oi a a1 → execOp a1.eval oj = execOp a.eval oj ∧ Region.wanted oj (yielded ops a1.tmps) = Region.wanted oj (yielded ops a.tmps) ∧ (t4o Kp w0 a.eval oj.op → t4o Kp w0 a1.eval oj.op):=by
      rintro a1 ⟨u,hu⟩
      have e1 : a1.eval = (a.put oi.dst u).eval:=by funext x;cases x <;> simp [Act.eval,hu]
      rw [e1,hu]
      refine ⟨execOp_put oj hsj a oi.dst u h1,wanted_put oj a oi.dst u h1,fun hl=>?_⟩
      cases hop : oj.op with
      | load t x =>
        rw [hop] at hl
        obtain ⟨b,o,z,hx,hz⟩:=hl
        refine ⟨b,o,z,?_,hz⟩
        rw [← hx]
        exact Act.eval_put fun d hd hxd=>h1 d hd (by
          subst hxd
          exact List.mem_append_left _ (List.mem_filterMap.2 ⟨.tmp d,by simp [hop,Op.operands],rfl⟩))
      | _=>trivial
    have k1:=key a1 htu
    have hw1:=hw0.trans (hk.1 (by rw [ei,c1]))
    obtain ⟨v,hy⟩:=tep hQ hj (t7i c2) (fun hw=>k1.2.2 (hfit (k1.2.1 ▸ hw))) hw1 hk.2
    have hya : YC Kp P ops w0 oj v a:=hy.of_same k1.1.symm k1.2.1.symm
    refine hya.wpOp hj hw0 ⟨(fun he=>by rw [ej,c2] at he;cases he),t6p hQ hi hsi h3 h2 ?_⟩
    refine wpOp_mono (fun a' w' ⟨hk',ht'⟩=>?_) hx
    have k2:=key a' ht'
    have hw':=hw0.trans (hk'.1 (by rw [ei,c1]))
    exact ⟨hk'.1,((hya.of_same k2.1 k2.2.1).out hQ hj hw' hk'.2).2⟩
def td4 (Kp : Nat → Prop) (w0 : World) (ops : Array Oper) (lf : Nat) (a : Act) : Prop :=
  ∀ (k : Nat) (o : Oper),ops[k]? = some o → lf.testBit k = true → Region.wanted o (yielded ops a.tmps) = true → t4o Kp w0 a.eval o.op
def ssaAt (md : Region.Mode) (ops : Array Oper) (k : Nat) : Prop :=
  ∀ ok : Oper,ops[k]? = some ok → ∀ (m : Nat) (om : Oper),ops[m]? = some om → ∀ d,om.dst = some d → d ∈ ok.looksAt ops → ∃ e ∈ ok.after,Region.binds md e = true ∧ e.on = m
theorem td5 {lf : Nat} {w0 : World} {listed : Array Bool} {a a' : Act} (hf : td4 Kp w0 ops lf a') (hag : Agree ops listed a a') {k : Nat} {o : Oper} (hs : ssaAt md ops k) (hk : ops[k]? = some o) (hr : k ∈ Region.ready md ops listed) (hl : lf.testBit k = true) :
    Region.wanted o (yielded ops a.tmps) = true → t4o Kp w0 a.eval o.op:=by
  intro hw
  obtain ⟨_,o',ho',hall⟩:=mem_ready.1 hr
  obtain rfl : o' = o:=by rw [hk] at ho';exact (Option.some.inj ho').symm
  have hsame : ∀ t ∈ o'.looksAt ops,a'.tmps[t]? = a.tmps[t]?:=fun t ht=>hag t fun m om hm hl hd=>by
    obtain ⟨e,he,hb,rfl⟩:=hs _ hk _ _ hm _ hd ht
    have:=hall e he hb
    rcases Nat.lt_or_ge e.on listed.size with h' | h'
    · simp [h'] at this hl;rw [this] at hl;cases hl
    · simp [Array.getElem?_eq_none h'] at this
  have hev : ∀ x ∈ o'.op.operands,a'.eval x = a.eval x:=fun x hx=>by
    cases x with
    | tmp t =>
      have : t ∈ o'.looksAt ops:=List.mem_append_left _ (List.mem_filterMap.2 ⟨.tmp t,by simpa using hx,rfl⟩)
      simp [Act.eval,Array.getD_eq_getD_getElem?,hsame t this]
    | _=>rfl
  have hy : Region.wanted o' (yielded ops a'.tmps) = Region.wanted o' (yielded ops a.tmps):=by
    unfold Region.wanted
    cases hg : o'.guard with
    | none=>rfl
    | some gw =>
      obtain ⟨g,want⟩:=gw
      have : yielded ops a'.tmps g = yielded ops a.tmps g:=by
        unfold yielded
        cases ht : (ops[g]?).bind (·.dst) with
        | none=>rfl
        | some t =>
          have : t ∈ o'.looksAt ops:=by simp [Oper.looksAt,hg,ht]
          simp [hsame t this]
      simp only [this]
  have:=hf k o' hk hl (hy ▸ hw)
  cases hop : o'.op with
  | load t x =>
    rw [hop] at this
    obtain ⟨b,of,z,hx,hz⟩:=this
    exact ⟨b,of,z,by rw [← hx];exact (hev x (by simp [hop,Op.operands])).symm,hz⟩
  | _=>trivial
inductive Reach (md : Region.Mode) (ops : Array Oper) : Nat → Nat → Prop where
  | one {k m : Nat} {o : Oper} {e : Edge} : ops[k]? = some o → e ∈ o.after → Region.binds md e = true → e.on = m → Reach md ops k m
  | more {k m : Nat} {o : Oper} {e : Edge} : ops[k]? = some o → e ∈ o.after → Region.binds md e = true → Reach md ops e.on m → Reach md ops k m
def Closed (md : Region.Mode) (ops : Array Oper) (listed : Array Bool) : Prop :=
  ∀ (m : Nat) (o : Oper),ops[m]? = some o → listed.getD m false = true → ∀ e ∈ o.after,Region.binds md e = true → listed.getD e.on false = true
theorem Reach.listed {listed : Array Bool} (hc : Closed md ops listed) {k m : Nat} (h : Reach md ops k m) (hk : ∀ o : Oper,ops[k]? = some o → ∀ e ∈ o.after,Region.binds md e = true → listed.getD e.on false = true) : listed.getD m false = true:=by
  induction h with
  | one ho he hb hm=>subst hm;exact hk _ ho _ he hb
  | more ho he hb _ ih=>exact ih fun o' ho' e' he' hb'=>hc _ o' ho' (hk _ ho _ he hb) e' he' hb'
theorem Closed.set {listed : Array Bool} (hc : Closed md ops listed) {j : Nat} (hk : ∀ o : Oper,ops[j]? = some o → ∀ e ∈ o.after,Region.binds md e = true → listed.getD e.on false = true) : Closed md ops (listed.setIfInBounds j true):=by
  have hmono : ∀ i,listed.getD i false = true → (listed.setIfInBounds j true).getD i false = true:=fun i hi=>by
    by_cases hij : j = i
    · subst hij
      by_cases hs : j < listed.size
      · simp [hs]
      · simp [hs] at hi
    · simpa [Array.getElem?_setIfInBounds,hij] using hi
  intro m o ho hm e he hb
  by_cases hjm : j = m
  · subst hjm;exact hmono _ (hk o ho e he hb)
  · refine hmono _ (hc m o ho ?_ e he hb)
    simpa [Array.getElem?_setIfInBounds,hjm] using hm
def t8x (md : Region.Mode) (ops : Array Oper) : Nat → Nat → Nat → Bool
  | 0,_,_=>false
  | f + 1,k,m=>match ops[k]? with | some o=>o.after.toList.any (fun e=>Region.binds md e && (e.on == m || t8x md ops f e.on m)) | none=>false
theorem td6 : ∀ (f k m : Nat),t8x md ops f k m = true → Reach md ops k m
  | 0,_,_,h=>by simp [t8x] at h
  | f + 1,k,m,h=>by
    unfold t8x at h
    split at h
    · rename_i o ho
      rw [List.any_eq_true] at h
      obtain ⟨e,he,h⟩:=h
      simp only [Bool.and_eq_true,Bool.or_eq_true,beq_iff_eq] at h
      obtain ⟨hb,h | h⟩:=h
      · exact .one ho (by simpa using he) hb h
      · exact .more ho (by simpa using he) hb (td6 f _ _ h)
    · cases h
structure LfOk (P : Program) (md : Region.Mode) (ops : Array Oper) (lf : Nat) : Prop where
  ssa : ∀ k,lf.testBit k = true → ssaAt md ops k
  act : ∀ (k : Nat) (o : Oper),ops[k]? = some o → cls4 P o.op = 3 → ∀ m,lf.testBit m = true → m < ops.size → Reach md ops k m
theorem td7 {i : Nat} {oi : Oper} {D : Array Bool} {lf : Nat} {w0 : World} (hQ : Shut Q) (hfin : ∀ a w,Q .normal a w → fin P ops a = true ∧ td4 Kp w0 ops lf a) (hs : ssa md ops = true) (hlf : LfOk P md ops lf) (hi : ops[i]? = some oi) (hsel : ∀ (j : Nat) (o : Oper) cs b,ops[j]? = some o → o.op ≠ .select cs b) :
    ∀ (fuel : Nat) (listed : Array Bool) (a : Act) (w : World),Closed md ops listed → ((∃ k,k < ops.size ∧ lf.testBit k = true ∧ listed.getD k true = false) → Ext Kp w0 w) → Inv md ops listed i D →
      (∀ j oj,ops[j]? = some oj → j ≠ i → listed.getD j true = false → D.getD j false = false → oi.apart ops oj = true ∧ commX P oi.op oj.op (lf.testBit i) (lf.testBit j) = true) →
      i ∈ Region.ready md ops listed →
      wpOpX Kp P ops Q i (t6r Kp P md ops Q fuel (listed.setIfInBounds i true)) a w → t6r Kp P md ops Q (fuel + 1) listed a w:=by
  intro fuel
  induction fuel with
  | zero =>
    intro listed a w _ _ _ _ hr H
    refine ⟨fun h=>(by rw [h] at hr;cases hr),fun j hj=>?_⟩
    by_cases hji : j = i
    · subst hji;exact H
    · have h1:=ready_mono hj hji
      obtain ⟨a1,w1,h2⟩:=t3c hQ hi H
      rw [h2.2.1] at h1
      cases h1
  | succ fuel ih =>
    intro listed a w hcl hext hinv hfree hr H
    refine ⟨fun h=>(by rw [h] at hr;cases hr),fun j hj=>?_⟩
    by_cases hji : j = i
    · subst hji;exact H
    · have hun:=(mem_ready.1 hr).1
      obtain ⟨hjun,oj,hoj,hall⟩:=mem_ready.1 hj
      have hDj:=hinv.out hun hj
      obtain ⟨hap,hco⟩:=hfree j oj hoj hji hjun hDj
      obtain ⟨a1,w1,hk1,ht1⟩:=t3c hQ hi (t2w hi H)
      obtain ⟨a2,w2,hq2,hag⟩:=tg5 hQ _ _ _ _ (t8c _ _ _ _ hk1.2)
      have hag':=t6f hi hun ht1 hag
      obtain ⟨hf2,hl2⟩:=hfin _ _ hq2
      have hil : i < ops.size:=(Array.getElem?_eq_some_iff.1 hi).1
      have hjl : j < ops.size:=(Array.getElem?_eq_some_iff.1 hoj).1
      have H2 : wpOpX Kp P ops Q i (wpOpX Kp P ops Q j (t6r Kp P md ops Q fuel ((listed.setIfInBounds i true).setIfInBounds j true))) a w :=
        tfe (fun a' w' h=>h.2 j (ready_mono hj hji)) H
      have hoj':=t7h hs hf2 hag' hoj hj
      have H3:=swapX hQ hi hoj hap (fun cs b=>hsel i oi cs b hi) (fun cs b=>hsel j oj cs b hoj) hco (t7h hs hf2 hag' hi hr) hoj'
        (fun hl=>⟨hext ⟨i,hil,hl,hun⟩,td5 hl2 hag' (hlf.ssa i hl) hi hr hl⟩) (fun hl=>⟨hext ⟨j,hjl,hl,hjun⟩,td5 hl2 hag' (hlf.ssa j hl) hoj hj hl⟩) H2
      -- what is known of the world behind j
      have H4 : wpOp P ops Q j (fun a' w'=>((cls4 P oj.op ≤ 1 → w' = w) ∧ (cls4 P oj.op = 2 → Ext Kp w w')) ∧ wpOpX Kp P ops Q i (t6r Kp P md ops Q fuel ((listed.setIfInBounds i true).setIfInBounds j true)) a' w') a w:=by
        have ej : ((ops[j]?).map fun o=>cls4 P o.op) = some (cls4 P oj.op):=by rw [hoj];rfl
        by_cases c0 : cls4 P oj.op = 0
        · exact wpOp_mono (fun a' w' h=>⟨⟨fun _=>h.1,fun he=>by rw [c0] at he;cases he⟩,h.2.2⟩) (t6g hQ hoj (fun hw=>(cls0 (t5x c0) (hoj' (t5x c0) hw)).2) H3)
        by_cases c1 : cls4 P oj.op = 1
        · exact wpOp_mono (fun a' w' h=>⟨⟨fun _=>h.1,fun he=>by rw [c1] at he;cases he⟩,h.2.2⟩) (t6g hQ hoj (fun hw=>cls1 (t7i c1)) H3)
        · exact wpOp_mono (fun a' w' h=>⟨⟨fun he=>by omega,fun he=>h.1 (by rw [ej,he])⟩,h.2⟩) H3
      refine wpOp_mono (fun a' w' h3=>⟨fun he=>h3.1.2 (by rw [hoj] at he;simpa using he),ih (listed.setIfInBounds j true) a' w' (hcl.set fun o' ho'=>by rw [hoj] at ho';cases ho';exact hall) (fun ⟨k,hkl,hk,hku⟩=>?_) ⟨fun k hk=>?_,hinv.edge⟩ (fun k ok hk hki hkun hD=>?_) (ready_mono hr (Ne.symm hji)) ?_⟩) H4
      · have hjk : j ≠ k:=fun e=>by
          subst e
          have hjs : j < listed.size ∨ listed.size ≤ j:=Nat.lt_or_ge _ _
          rcases hjs with h' | h'
          · simp [h'] at hku
          · simp [Array.getElem?_eq_none h'] at hjun
        rw [getD_set_ne true hjk] at hku
        have hw0:=hext ⟨k,hkl,hk,hku⟩
        by_cases cj : cls4 P oj.op ≤ 1
        · rw [h3.1.1 cj];exact hw0
        by_cases c2 : cls4 P oj.op = 2
        · exact hw0.trans (h3.1.2 c2)
        · exfalso
          have c3 : cls4 P oj.op = 3:=by
            have : cls4 P oj.op ≤ 3:=by
              unfold cls4
              split
              · split <;> omega
              · rename_i hne
                have : cls P oj.op ≤ 2:=by
                  unfold cls
                  split <;> first | omega | (split <;> omega)
                omega
            omega
          have:=(hlf.act j oj hoj c3 k hk hkl).listed hcl fun o' ho'=>by rw [hoj] at ho';cases ho';exact hall
          rcases Nat.lt_or_ge k listed.size with h' | h'
          · simp [h'] at this hku;rw [this] at hku;cases hku
          · simp [Array.getElem?_eq_none h'] at this
      · have hne : j ≠ k:=fun e=>by rw [e,hk] at hDj;cases hDj
        rw [getD_set_ne true hne];exact hinv.un k hk
      · refine hfree k ok hk hki ?_ hD
        by_cases hjk : j = k
        · subst hjk;exact hjun
        · rw [getD_set_ne true hjk] at hkun;exact hkun
      · rw [Array.setIfInBounds_comm _ _ hji]
        exact h3.2
structure InfoX extends Info where
  c4 : Nat
  lf : Bool
def infoX (P : Program) (md : Region.Mode) (ops : Array Oper) (lf : Nat) (o : Oper) (k : Nat) : InfoX :=
  { info P md ops o with c4:=cls4 P o.op,lf:=lf.testBit k }
def tjk (x y : InfoX) : Bool:=x.c4 == 0 || y.c4 == 0 || (x.c4 == 1 && y.c4 == 1) || (x.c4 == 1 && x.lf && y.c4 == 2) || (x.c4 == 2 && y.c4 == 1 && y.lf)
def teq (x y : InfoX) : Bool:=(x.dm &&& y.lm) == 0 && (x.dm &&& y.dm) == 0 && (y.dm &&& x.lm) == 0 && tjk x y
def walkX (x : InfoX) (k : Nat) : List InfoX → Nat → Nat → Bool
  | [],_,_=>true
  | y :: rest,j,D=>if (y.am &&& (D ||| 2 ^ k)) != 0 then walkX x k rest (j + 1) (D ||| 2 ^ j) else teq x y && walkX x k rest (j + 1) D
def chkX : List InfoX → Nat → Bool
  | [],_=>true
  | x :: rest,k=>decide (x.am < 2 ^ k) && walkX x k rest (k + 1) 0 && chkX rest (k + 1)
def t7j (P : Program) (md : Region.Mode) (ops : Array Oper) (lf : Nat) : List Oper → Nat → List InfoX
  | [],_=>[]
  | o :: l,k=>infoX P md ops lf o k :: t7j P md ops lf l (k + 1)
def tby : List Info → List Nat → List Nat
  | [],B=>B.reverse
  | x :: rest,B=>tby rest ((x.am ||| up x.am B.reverse 0) :: B)
where
  up (am : Nat) : List Nat → Nat → Nat
    | [],_=>0
    | b :: r,m=>(if am.testBit m then b else 0) ||| up am r (m + 1)
def lfOf (P : Program) (ops : List Oper) : Nat :=
  let inf:=ops.map (info P .any ops.toArray)
  let anc:=tby inf []
  maskL ((List.range ops.length).filter fun k=>match ops[k]? with
    | some o=>cls4 P o.op == 1 && (List.range ops.length).any fun j=>(match ops[j]? with | some p=>cls4 P p.op == 2 | none=>false) && !(anc.getD k 0).testBit j && !(anc.getD j 0).testBit k
    | none=>false)
def lfChk (P : Program) (ops : List Oper) (lf : Nat) : Bool :=
  (List.range ops.length).all (fun k=>!lf.testBit k || (match ops[k]? with | some o=>ssaI.go (info P .any ops.toArray o) (ops.map (info P .any ops.toArray)) 0 | none=>true)) &&
  (List.range ops.length).all (fun k=>(match ops[k]? with | some o=>cls4 P o.op != 3 | none=>true) || (List.range ops.length).all fun m=>!lf.testBit m || t8x .any ops.toArray 6 k m)
def lexX (P : Program) (ops : List Oper) : Bool :=
  Region.noSelect ops.toArray && ssaI (ops.map (info P .any ops.toArray)) && lfChk P ops (lfOf P ops) && decide (lfOf P ops < 2 ^ ops.length) && chkX (t7j P .any ops.toArray (lfOf P ops) ops 0) 0
theorem tbn {P : Program} {md : Region.Mode} {ops : Array Oper} {x y : Oper} (h1 : ((info P md ops x).dm &&& (info P md ops y).lm == 0) = true) (h2 : ((info P md ops x).dm &&& (info P md ops y).dm == 0) = true) (h3 : ((info P md ops y).dm &&& (info P md ops x).lm == 0) = true) : x.apart ops y = true:=by
  simp only [beq_iff_eq] at h1 h2 h3
  unfold Oper.apart
  rw [Bool.and_eq_true]
  constructor
  · split
    · rename_i d hd
      have hx:=(dm_spec (P:=P) (md:=md) (ops:=ops) (o:=x)).2 hd
      rw [Bool.and_eq_true]
      constructor
      · rw [Bool.not_eq_true',List.contains_eq_mem,decide_eq_false_iff_not]
        exact fun hm=>t6q hx ((lm_spec (P:=P) (md:=md)).2 hm) h1
      · rw [bne_iff_ne]
        exact fun hy=>t6q hx ((dm_spec (P:=P) (md:=md) (ops:=ops)).2 hy) h2
    · rfl
  · split
    · rename_i d hd
      have hy:=(dm_spec (P:=P) (md:=md) (ops:=ops) (o:=y)).2 hd
      rw [Bool.not_eq_true',List.contains_eq_mem,decide_eq_false_iff_not]
      exact fun hm=>t6q hy ((lm_spec (P:=P) (md:=md)).2 hm) h3
    · rfl
theorem t8d {P : Program} {md : Region.Mode} {ops : Array Oper} {x : Oper} {k lf : Nat} : ∀ (l : List Oper) (j0 D : Nat),walkX (infoX P md ops lf x k) k (t7j P md ops lf l j0) j0 D = true →
    (∀ j : Nat,D.testBit j = true → j < j0) →
    ∃ D' : Nat,(∀ j : Nat,D.testBit j = true → D'.testBit j = true) ∧ (∀ j : Nat,D'.testBit j = true → D.testBit j = true ∨ j0 ≤ j) ∧
      (∀ (j : Nat) (y : Oper),l[j]? = some y → D'.testBit (j0 + j) = true → ∃ e ∈ y.after,Region.binds md e = true ∧ (e.on = k ∨ D'.testBit e.on = true)) ∧
      (∀ j : Nat,D'.testBit j = true → D.testBit j = true ∨ ∃ (i : Nat) (y : Oper),l[i]? = some y ∧ j = j0 + i) ∧
      (∀ (j : Nat) (y : Oper),l[j]? = some y → D'.testBit (j0 + j) = false → x.apart ops y = true ∧ commX P x.op y.op (lf.testBit k) (lf.testBit (j0 + j)) = true)
  | [],j0,D,_,_=>⟨D,fun _ h=>h,fun _ h=>.inl h,fun j y h=>by simp at h,fun _ h=>.inl h,fun j y h=>by simp at h⟩
  | z :: l,j0,D,h,hD=>by
    simp only [t7j,walkX] at h
    split at h
    · rename_i hne
      rw [bne_iff_ne] at hne
      obtain ⟨m,hm1,hm2⟩:=td2 hne
      have hD2 : ∀ j,(D ||| 2 ^ j0).testBit j = true → j < j0 + 1:=fun j hj=>by
        rw [Nat.testBit_or,Nat.testBit_two_pow,Bool.or_eq_true,decide_eq_true_eq] at hj
        rcases hj with hj | hj
        · have:=hD j hj;omega
        · omega
      obtain ⟨D',g1,g2,g3,g4,g5⟩:=t8d l (j0 + 1) (D ||| 2 ^ j0) h hD2
      have sub : ∀ j,D.testBit j = true → D'.testBit j = true:=fun j hj=>g1 j (by simp [Nat.testBit_or,hj])
      have hj0 : D'.testBit j0 = true:=g1 j0 (by simp [Nat.testBit_or])
      refine ⟨D',sub,fun j hj=>?_,fun j y hy hj=>?_,fun j hj=>?_,fun j y hy hj=>?_⟩
      · rcases g2 j hj with h1 | h1
        · rw [Nat.testBit_or,Nat.testBit_two_pow,Bool.or_eq_true,decide_eq_true_eq] at h1
          rcases h1 with h1 | h1
          · exact .inl h1
          · exact .inr (by omega)
        · exact .inr (by omega)
      · cases j with
        | zero =>
          simp at hy
          subst hy
          obtain ⟨e,he,hb,hon⟩:=am_spec.1 hm1
          refine ⟨e,he,hb,?_⟩
          rw [Nat.testBit_or,Nat.testBit_two_pow,Bool.or_eq_true,decide_eq_true_eq] at hm2
          rcases hm2 with h2 | h2
          · exact .inr (sub _ (by rw [hon];exact h2))
          · exact .inl (by omega)
        | succ j=>exact g3 j y (by simpa using hy) (by rw [← hj];congr 1;omega)
      · rcases g4 j hj with h1 | ⟨i,y,hy,rfl⟩
        · rw [Nat.testBit_or,Nat.testBit_two_pow,Bool.or_eq_true,decide_eq_true_eq] at h1
          rcases h1 with h1 | h1
          · exact .inl h1
          · exact .inr ⟨0,z,rfl,by omega⟩
        · exact .inr ⟨i + 1,y,by simpa using hy,by omega⟩
      · cases j with
        | zero=>simp [hj0] at hj
        | succ j =>
          have:=g5 j y (by simpa using hy) (by rw [← hj];congr 1;omega)
          rw [show j0 + 1 + j = j0 + (j + 1) by omega] at this
          exact this
    · rename_i hne
      rw [Bool.and_eq_true] at h
      have hp : x.apart ops z = true ∧ commX P x.op z.op (lf.testBit k) (lf.testBit j0) = true:=by
        have h0:=h.1
        simp only [teq,Bool.and_eq_true] at h0
        obtain ⟨⟨⟨a1,a2⟩,a3⟩,a4⟩:=h0
        refine ⟨?_,a4⟩
        exact tbn a1 a2 a3
      obtain ⟨D',g1,g2,g3,g4,g5⟩:=t8d l (j0 + 1) D h.2 (fun j hj=>by have:=hD j hj;omega)
      have hnot : D'.testBit j0 = false:=by
        cases hb : D'.testBit j0 with
        | false=>rfl
        | true =>
          rcases g2 j0 hb with h1 | h1
          · have:=hD _ h1;omega
          · omega
      refine ⟨D',g1,fun j hj=>?_,fun j y hy hj=>?_,fun j hj=>?_,fun j y hy hj=>?_⟩
      · rcases g2 j hj with h1 | h1
        · exact .inl h1
        · exact .inr (by omega)
      · cases j with
        | zero=>simp [hnot] at hj
        | succ j=>exact g3 j y (by simpa using hy) (by rw [← hj];congr 1;omega)
      · rcases g4 j hj with h1 | ⟨i,y,hy,rfl⟩
        · exact .inl h1
        · exact .inr ⟨i + 1,y,by simpa using hy,by omega⟩
      · cases j with
        | zero=>simp at hy;subst hy;exact hp
        | succ j =>
          have:=g5 j y (by simpa using hy) (by rw [← hj];congr 1;omega)
          rw [show j0 + 1 + j = j0 + (j + 1) by omega] at this
          exact this
theorem tas {P : Program} {o : Oper} {a : Act} {w : World} {K : Act → World → Prop} {Q Q' : Exit → Act → World → Prop} (hq : ∀ e a w,Q e a w → Q' e a w) (h : o.wp P a w K Q) : o.wp P a w K Q':=by
  unfold Oper.wp at *
  generalize (execOp a.eval o).run P w = r at *
  cases r with
  | ok n w' =>
    cases n <;> simp only [Oper.upon] at h ⊢ <;> try exact h
    exact Calls.mono h fun e w'' he=>by
      cases e with
      | returned v=>exact he
      | panicked c=>exact hq _ _ _ he
      | outgrown=>obtain ⟨a0,w0,h0⟩:=he;exact ⟨a0,w0,hq _ _ _ h0⟩
  | halt x w'=>cases x <;> simp only [Oper.upon] at h ⊢;exact hq _ _ _ h
def wpX (Kp : Nat → Prop) (P : Program) (ops : Array Oper) (Q : Exit → Act → World → Prop) : List Oper → Act → World → Prop
  | [],a,w=>Q .normal a w
  | o :: rest,a,w=>wpList P ops (Exit.then (fun a' w'=>(cls4 P o.op = 2 → Ext Kp w w') ∧ wpX Kp P ops Q rest a' w') (fun _ _ _=>False)) [o] a w
theorem t0v {Q : Exit → Act → World → Prop} {a : Act} {w : World} (h : Q .normal a w) : wpX Kp P ops Q [] a w:=h
theorem tg8 {o : Oper} {rest : List Oper} {a : Act} {w : World} (hc : (cls4 P o.op == 2) = false) (h : wpList P ops (Exit.then (wpX Kp P ops Q rest) (fun _ _ _=>False)) [o] a w) : wpX Kp P ops Q (o :: rest) a w:=by
  have hne : cls4 P o.op ≠ 2:=by simpa using hc
  unfold wpX
  simp only [wpList] at h ⊢
  split at h
  · rename_i hw
    rw [if_pos hw]
    rcases h with h | ⟨h1,a0,w0,h2⟩
    · exact .inl (Oper.wp_mono (fun a' w' x=>⟨fun he=>absurd he hne,x⟩) (tas (fun e a w x=>by cases e <;> first | exact x.elim | exact ⟨fun he=>absurd he hne,x⟩) h))
    · exact h2.elim
  · rename_i hw
    rw [if_neg hw]
    exact ⟨fun he=>absurd he hne,h⟩
theorem t0s {o : Oper} {rest : List Oper} {a : Act} {w : World} (h : wpList P ops (Exit.then (fun a' w'=>Ext Kp w w' ∧ wpX Kp P ops Q rest a' w') (fun _ _ _=>False)) [o] a w) : wpX Kp P ops Q (o :: rest) a w:=by
  unfold wpX
  simp only [wpList] at h ⊢
  split at h
  · rename_i hw
    rw [if_pos hw]
    rcases h with h | ⟨h1,a0,w0,h2⟩
    · exact .inl (Oper.wp_mono (fun a' w' x=>⟨fun _=>x.1,x.2⟩) (tas (fun e a w x=>by cases e <;> first | exact x.elim | exact ⟨fun _=>x.1,x.2⟩) h))
    · exact h2.elim
  · rename_i hw
    rw [if_neg hw]
    exact ⟨fun _=>h.1,h.2⟩
theorem t0e {w w' : World} {R : Prop} (h : Ext Kp w w') (k : R) : Ext Kp w w' ∧ R:=⟨h,k⟩
theorem tat {Q' : Exit → Act → World → Prop} (hs : Shut Q') {i : Nat} {K : Act → World → Prop} {a : Act} {w : World} (h : wpOp P ops Q' i K a w) : wpOp P ops Q i K a w:=by
  unfold wpOp at *
  split
  · rename_i hn;rw [hn] at h;exact h
  · rename_i o ho
    simp only [ho] at h
    split
    · rename_i hw
      simp only [hw,if_true] at h
      rcases h with h | ⟨h1,a0,w0,h2⟩
      · refine .inl ?_
        unfold Oper.wp at *
        generalize (execOp a.eval o).run P w = r at *
        cases r with
        | ok n w' =>
          cases n <;> simp only [Oper.upon] at h ⊢ <;> try exact h
          exact Calls.mono h fun e w'' he=>by
            cases e with
            | returned v=>exact he
            | panicked c=>exact absurd he (hs.panic _ _ _)
            | outgrown=>obtain ⟨a0,w0,h0⟩:=he;exact absurd h0 (hs.room _ _)
        | halt x w' =>
          cases x <;> simp only [Oper.upon] at h ⊢
          exact absurd h (hs.panic _ _ _)
      · exact absurd h2 (hs.room _ _)
    · rename_i hw
      simp only [hw] at h
      exact h
theorem t8y {K : Act → World → Prop} : Shut (Exit.then K (fun _ _ _=>False)):=⟨fun _ _ _ h=>h,fun _ _ h=>h⟩
theorem tg9 {k : Nat} {o : Oper} {l : List Oper} {a : Act} {w : World} (hk : ops[k]? = some o) (h : wpX Kp P ops Q (o :: l) a w) : wpOpX Kp P ops Q k (wpX Kp P ops Q l) a w:=by
  unfold wpX at h
  have hst : wpOp P ops (Exit.then (fun a' w'=>(cls4 P o.op = 2 → Ext Kp w w') ∧ wpX Kp P ops Q l a' w') (fun _ _ _=>False)) k (fun a' w'=>(cls4 P o.op = 2 → Ext Kp w w') ∧ wpX Kp P ops Q l a' w') a w:=by
    unfold wpOp
    simp only [hk]
    exact h
  unfold wpOpX
  refine wpOp_mono (fun a' w' x=>⟨fun he=>x.1 (by rw [hk] at he;simpa using he),x.2⟩) (tat t8y hst)
theorem ter (hQ : Shut Q) {l0 : List Oper} : ∀ (l : List Oper) (k : Nat) (listed : Array Bool) (a : Act) (w : World),Listed l0.length k listed → l0.length = k + l.length → (∀ j : Nat,l[j]? = l0[k + j]?) → wpX Kp P l0.toArray Q l a w →
    ∃ a' w',Q .normal a' w' ∧ Agree l0.toArray listed a a'
  | [],_,_,a,w,_,_,_,h=>⟨a,w,h,fun _ _=>rfl⟩
  | o :: l,k,listed,a,w,hL,hn,hl,h=>by
    have h0 : l0.toArray[k]? = some o:=by simpa using (hl 0).symm
    obtain ⟨a1,w1,hk,ht⟩:=t3c hQ h0 (t2w h0 (tg9 h0 h))
    obtain ⟨a2,w2,hq,hag⟩:=ter hQ l (k + 1) _ a1 w1 hL.next (by simp at hn;omega) (fun j=>by have:=hl (j + 1);simpa [Nat.add_assoc,Nat.add_comm 1 j] using this) hk.2
    exact ⟨a2,w2,hq,t6f h0 ((hL.t k).2 ⟨by simp at hn;omega,Nat.le_refl _⟩) ht hag⟩
theorem tio (o : Op) : cls4 P o ≤ 3:=by
  unfold cls4
  split
  · split <;> omega
  · rename_i hne
    have : cls P o ≤ 2:=by
      unfold cls
      split <;> first | omega | (split <;> omega)
    omega
theorem tau {l0 : List Oper} {lf : Nat} {w0 : World} (hQ : Shut Q) (hfin : ∀ a w,Q .normal a w → fin P l0.toArray a = true ∧ td4 Kp w0 l0.toArray lf a) (hs : ssa md l0.toArray = true) (hlf : LfOk P md l0.toArray lf) (hsel : Region.noSelect l0.toArray = true) :
    ∀ (l : List Oper) (k : Nat) (listed : Array Bool) (a : Act) (w : World),Closed md l0.toArray listed → ((∃ m,m < l0.toArray.size ∧ lf.testBit m = true ∧ listed.getD m true = false) → Ext Kp w0 w) → Listed l0.length k listed → l0.length = k + l.length → (∀ j : Nat,l[j]? = l0[k + j]?) →
    chkX (t7j P md l0.toArray lf l k) k = true → wpX Kp P l0.toArray Q l a w → t6r Kp P md l0.toArray Q l.length listed a w
  | [],k,listed,a,w,_,_,hL,hn,_,_,h=>by
    refine ⟨?_,h⟩
    cases hr : Region.ready md l0.toArray listed with
    | nil=>rfl
    | cons i rest =>
      have hi : i ∈ Region.ready md l0.toArray listed:=by rw [hr];simp
      have:=(hL.t i).1 (mem_ready.1 hi).1
      simp at hn
      omega
  | o :: l,k,listed,a,w,hcl,hext,hL,hn,hl,hB,h=>by
    have h0 : l0.toArray[k]? = some o:=by simpa using (hl 0).symm
    simp only [t7j,chkX,Bool.and_eq_true,decide_eq_true_eq] at hB
    obtain ⟨⟨ham,hw⟩,hB'⟩:=hB
    have ham : (info P md l0.toArray o).am < 2 ^ k:=ham
    have hkn : k < l0.length:=by simp at hn;omega
    have hlt : ∀ e ∈ o.after,Region.binds md e = true → e.on < k:=fun e he hb=>by
      have hbit : (info P md l0.toArray o).am.testBit e.on = true:=am_spec.2 ⟨e,he,hb,rfl⟩
      rcases Nat.lt_or_ge e.on k with h' | h'
      · exact h'
      · have : (info P md l0.toArray o).am.testBit e.on = false:=Nat.testBit_lt_two_pow (Nat.lt_of_lt_of_le ham (Nat.pow_le_pow_right (by omega) h'))
        rw [this] at hbit;cases hbit
    have hafter : ∀ e ∈ o.after,Region.binds md e = true → listed.getD e.on false = true:=fun e he hb=>(hL.f _).2 (by have:=hlt e he hb;omega)
    have hcl2 : Closed md l0.toArray (listed.setIfInBounds k true):=hcl.set fun o' ho'=>by rw [h0] at ho';cases ho';exact hafter
    have hr : k ∈ Region.ready md l0.toArray listed:=by
      refine mem_ready.2 ⟨(hL.t k).2 ⟨hkn,Nat.le_refl _⟩,o,h0,fun e he hb=>(hL.f _).2 ?_⟩
      have:=hlt e he hb
      omega
    obtain ⟨D',_,_,g3,g4,g5⟩:=t8d l (k + 1) 0 hw (fun j hj=>by simp at hj)
    have hlj : ∀ j y,l0.toArray[j]? = some y → k < j → l[j - (k + 1)]? = some y ∧ j = k + 1 + (j - (k + 1)):=fun j y hy hj=>by
      refine ⟨?_,by omega⟩
      have:=hl (j - (k + 1) + 1)
      rw [show k + (j - (k + 1) + 1) = j by omega] at this
      simp only [List.getElem?_cons_succ] at this
      rw [this];simpa using hy
    let D : Array Bool:=Array.ofFn fun i : Fin l0.length=>D'.testBit i
    have hDt : ∀ j,D.getD j false = true → D'.testBit j = true ∧ j < l0.length:=fun j hj=>by
      rcases Nat.lt_or_ge j l0.length with h' | h'
      · simp [D,h'] at hj;exact ⟨hj,h'⟩
      · simp [D,h'] at hj
    have hDf : ∀ j,j < l0.length → D.getD j false = D'.testBit j:=fun j hj=>by simp [D,hj]
    have hge : ∀ j,D'.testBit j = true → k + 1 ≤ j ∧ j < l0.length:=fun j hj=>by
      rcases g4 j hj with h1 | ⟨i,y,hy,rfl⟩
      · simp at h1
      · have:=(List.getElem?_eq_some_iff.1 hy).1
        simp at hn
        omega
    have hinv : Inv md l0.toArray listed k D:=by
      refine ⟨fun j hj=>(hL.t j).2 ⟨(hDt j hj).2,by have:=hge j (hDt j hj).1;omega⟩,fun j hj=>?_⟩
      obtain ⟨h1,h2⟩:=hDt j hj
      have h3:=hge j h1
      have hy : l0.toArray[j]? = some l0[j]:=by simp [h2]
      obtain ⟨hy',he⟩:=hlj j _ hy (by omega)
      obtain ⟨e,he1,he2,he3⟩:=g3 _ _ hy' (by rw [← he];exact h1)
      refine ⟨l0[j],e,hy,he1,he2,he3.imp id fun h4=>?_⟩
      rw [hDf _ (hge _ h4).2];exact h4
    have hst:=tg9 h0 h
    have hL':=hL.next
    have hn' : l0.length = k + 1 + l.length:=by simp at hn;omega
    have hl' : ∀ j : Nat,l[j]? = l0[k + 1 + j]?:=fun j=>by have:=hl (j + 1);simpa [Nat.add_assoc,Nat.add_comm 1 j] using this
    -- what is known of the world behind k
    have hok : cls P o.op = 0 → Region.wanted o (yielded l0.toArray a.tmps) = true → okAt a.eval o.op = true:=by
      obtain ⟨a2,w2,hq,hag⟩:=ter hQ (o :: l) k listed a w hL hn hl h
      exact t7h hs (hfin _ _ hq).1 hag h0 hr
    have ek : ((l0.toArray[k]?).map fun o=>cls4 P o.op) = some (cls4 P o.op):=by rw [h0];rfl
    have H4 : wpOp P l0.toArray Q k (fun a' w'=>((cls4 P o.op ≤ 1 → w' = w) ∧ (cls4 P o.op = 2 → Ext Kp w w')) ∧ wpX Kp P l0.toArray Q l a' w') a w:=by
      by_cases c0 : cls4 P o.op = 0
      · exact wpOp_mono (fun a' w' h=>⟨⟨fun _=>h.1,fun he=>by rw [c0] at he;cases he⟩,h.2.2⟩) (t6g hQ h0 (fun hw=>(cls0 (t5x c0) (hok (t5x c0) hw)).2) hst)
      by_cases c1 : cls4 P o.op = 1
      · exact wpOp_mono (fun a' w' h=>⟨⟨fun _=>h.1,fun he=>by rw [c1] at he;cases he⟩,h.2.2⟩) (t6g hQ h0 (fun hw=>cls1 (t7i c1)) hst)
      · exact wpOp_mono (fun a' w' h=>⟨⟨fun he=>by omega,fun he=>h.1 (by rw [ek,he])⟩,h.2⟩) hst
    refine td7 hQ hfin hs hlf h0 (Region.noSelect_spec hsel) l.length listed a w hcl hext hinv (fun j oj hoj hne hun hD=>?_) hr ?_
    · have hj:=(hL.t j).1 hun
      obtain ⟨hy',he⟩:=hlj j _ hoj (by omega)
      rw [hDf j hj.1] at hD
      have:=g5 _ _ hy' (by rw [← he];exact hD)
      rw [← he] at this
      exact this
    · refine wpOp_mono (fun a' w' h4=>⟨fun he=>h4.1.2 (by rw [ek] at he;simpa using he),tau hQ hfin hs hlf hsel l (k + 1) _ a' w' hcl2 (fun ⟨m,hml,hm,hmu⟩=>?_) hL' hn' hl' hB' h4.2⟩) H4
      have hmk:=(hL'.t m).1 hmu
      have hw0:=hext ⟨m,hml,hm,(hL.t m).2 ⟨hmk.1,by omega⟩⟩
      by_cases c1 : cls4 P o.op ≤ 1
      · rw [h4.1.1 c1];exact hw0
      by_cases c2 : cls4 P o.op = 2
      · exact hw0.trans (h4.1.2 c2)
      · exfalso
        have c3 : cls4 P o.op = 3:=by have:=tio (P:=P) o.op;omega
        have:=(hlf.act k o h0 c3 m hm hml).listed hcl fun o' ho'=>by rw [h0] at ho';cases ho';exact hafter
        have:=(hL.f m).1 this
        omega
theorem tip {l : List Oper} {lf : Nat} (h : lfChk P l lf = true) : LfOk P .any l.toArray lf:=by
  simp only [lfChk,Bool.and_eq_true,List.all_eq_true,List.mem_range,Bool.or_eq_true,Bool.not_eq_true'] at h
  refine ⟨fun k hk ok hok m om hom d hd hl=>?_,fun k o ho hc m hm hml=>?_⟩
  · have hkl : k < l.length:=by have:=(Array.getElem?_eq_some_iff.1 hok).1;simpa using this
    have hok' : l[k]? = some ok:=by simpa using hok
    rcases h.1 k hkl with h1 | h1
    · rw [hk] at h1;cases h1
    · rw [hok'] at h1
      obtain ⟨e,he,hb,hon⟩:=tbm l 0 h1 m om (by simpa using hom) d hd hl
      exact ⟨e,he,hb,by omega⟩
  · have hkl : k < l.length:=by have:=(Array.getElem?_eq_some_iff.1 ho).1;simpa using this
    have hok' : l[k]? = some o:=by simpa using ho
    rcases h.2 k hkl with h1 | h1
    · rw [hok'] at h1
      simp only [bne_iff_ne,ne_eq] at h1
      exact absurd hc h1
    · rcases h1 m (by simpa using hml) with h2 | h2
      · rw [hm] at h2;cases h2
      · exact td6 6 _ _ h2
def finL (Kp : Nat → Prop) (lf : Nat) (ops : Array Oper) (w0 : World) (a : Act) : List Oper → Nat → Prop
  | [],_=>True
  | o :: l,k=>(lf.testBit k = true → Region.wanted o (yielded ops a.tmps) = true → t4o Kp w0 a.eval o.op) ∧ finL Kp lf ops w0 a l (k + 1)
theorem td8 {lf : Nat} {w0 : World} {a : Act} : ∀ (l : List Oper) (k : Nat),finL Kp lf ops w0 a l k → ∀ (j : Nat) (o : Oper),l[j]? = some o → lf.testBit (k + j) = true → Region.wanted o (yielded ops a.tmps) = true → t4o Kp w0 a.eval o.op
  | [],_,_,j,o,hj=>by simp at hj
  | z :: l,k,h,j,o,hj=>by
    cases j with
    | zero=>simp at hj;subst hj;exact h.1
    | succ j =>
      have:=td8 l (k + 1) h.2 j o (by simpa using hj)
      rw [show k + 1 + j = k + (j + 1) by omega] at this
      exact this
theorem t0t {lf : Nat} {w0 : World} {a : Act} {k : Nat} : finL Kp lf ops w0 a [] k:=trivial
def tjl : Op → Bool
  | .load ..=>false
  | _=>true
theorem t0o {lf : Nat} {w0 : World} {a : Act} {o : Oper} {l : List Oper} {k : Nat} (h : tjl o.op = true) (r : finL Kp lf ops w0 a l (k + 1)) : finL Kp lf ops w0 a (o :: l) k:=by
  refine ⟨fun _ _=>?_,r⟩
  cases hop : o.op with
  | load t x=>rw [hop] at h;cases h
  | _=>trivial
theorem t0p {lf : Nat} {w0 : World} {a : Act} {o : Oper} {l : List Oper} {k : Nat} (h : lf.testBit k = false) (r : finL Kp lf ops w0 a l (k + 1)) : finL Kp lf ops w0 a (o :: l) k :=
  ⟨fun h1=>(by rw [h] at h1;cases h1),r⟩
theorem t0c {lf : Nat} {w0 : World} {a : Act} {d : Option Tmp} {t T : TypeId} {x : Operand} {pos : String} {after : Array Edge} {g : Option (Nat × Bool)} {l : List Oper} {k b o : Nat} {v : Value} (hx : a.eval x = .pointer (some ⟨b,o,none⟩)) (hkp : Kp b) (hv : w0.cell? ⟨b,o,none⟩ = some v) (r : finL Kp lf ops w0 a l (k + 1)) : finL Kp lf ops w0 a (⟨d,.load t x,T,pos,after,g⟩ :: l) k :=
  ⟨fun _ _=>⟨b,o,v,hx,hkp,hv⟩,r⟩
theorem t0h (Kp : Nat → Prop) {id : Nat} {a : Act} {w : World} {l : List Oper} (hm : P.follows .mixedOrders = true) (hB : lexX P l = true)
    (h : wpX Kp P l.toArray (Exit.then (fun a' w'=>fin P l.toArray a' = true ∧ finL Kp (lfOf P l) l.toArray w.drew a' l 0 ∧ Q .normal a' w') (fun _ _ _=>False)) l a w.drew) : (Code.region id l.toArray true).wp P Q a w:=by
  simp only [lexX,Bool.and_eq_true] at hB
  obtain ⟨⟨⟨⟨h1,h2⟩,h3⟩,_⟩,h5⟩:=hB
  refine wp_region_any hm (t7g (Q':=Exit.then (fun a' w'=>fin P l.toArray a' = true ∧ finL Kp (lfOf P l) l.toArray w.drew a' l 0 ∧ Q .normal a' w') (fun _ _ _=>False)) (fun e a w hx=>?_) _ _ _ _ ?_)
  · cases e <;> first | exact hx.2.2 | exact hx.elim
  · have:=tau (P:=P) (md:=.any) (l0:=l) (lf:=lfOf P l) (w0:=w.drew) t8y
      (fun a' w' (hx : fin P l.toArray a' = true ∧ finL Kp (lfOf P l) l.toArray w.drew a' l 0 ∧ Q .normal a' w')=>⟨hx.1,fun k o hk hb hw=>td8 l 0 hx.2.1 k o (by simpa using hk) (by simpa using hb) hw⟩)
      (tbx h2) (tip h3) h1 l 0 (Array.replicate l.length false) a w.drew (fun m o _ hm=>by simp [Array.getElem?_replicate] at hm;split at hm <;> simp at hm) (fun _=>Ext.refl _) ⟨by simp,fun j hj=>by simp⟩ (by simp) (by simp) h5 h
    exact t8c _ _ _ _ (by simpa using this)
theorem tk2 {a : Act} {w0 : World} {lf : Nat} {l : List Oper} {R : Prop} (h : fin P ops a = true) (h2 : finL Kp lf ops w0 a l 0) (k : R) : fin P ops a = true ∧ finL Kp lf ops w0 a l 0 ∧ R:=⟨h,h2,k⟩
end
end Go.LexK
