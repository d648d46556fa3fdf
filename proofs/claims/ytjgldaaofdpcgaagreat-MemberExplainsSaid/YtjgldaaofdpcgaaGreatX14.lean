/- Walks and plain facts for the laws of membership, for all values and types that the heap holds (texts V5 E0 X0). -/
import Derived.Deep.OwnRows
import Derived.Test.YtjgldaaofdpcgaaGreatX03
import Derived.Test.YtjgldaaofdpcgaaGreatX13
set_option linter.unusedVariables false
set_option linter.unusedSimpArgs false
namespace Go.Proofs.YtjgldaaofdpcgaaGreat
open Go.RowKit Go.Ident
set_option maxRecDepth 100000
mutual
def VV.nodes : VV → Nat
  | .mk _ _ _ kids _ ents _=>1 + (nodesVs kids + nodesEs ents)
def EE.nodes : EE → Nat
  | .mk args f res=>nodesVs args + (if f then 0 else res.nodes)
def nodesVs : List VV → Nat
  | []=>0
  | x :: r=>x.nodes + nodesVs r
def nodesEs : List EE → Nat
  | []=>0
  | x :: r=>x.nodes + nodesEs r
end
theorem t2o : ∀ l,nodesVs l = (l.map VV.nodes).sum
  | []=>by rw [nodesVs];rfl
  | x :: r=>by rw [nodesVs,t2o r];simp
theorem t8g : ∀ l,nodesEs l = (l.map EE.nodes).sum
  | []=>by rw [nodesEs];rfl
  | x :: r=>by rw [nodesEs,t8g r];simp
def EE.parts (e : EE) : List VV:=e.args ++ (if e.fails then [] else [e.res])
def VV.parts (v : VV) : List VV:=v.kids ++ v.ents.flatMap EE.parts
theorem t5c (e : EE) : e.nodes = (e.parts.map VV.nodes).sum:=by
  cases e with | mk a f r =>
  rw [EE.nodes,t2o]
  show _ = (((a ++ (if f then [] else [r])).map VV.nodes).sum)
  cases f <;> simp
theorem tb2 : ∀ l : List EE,(l.map EE.nodes).sum = ((l.flatMap EE.parts).map VV.nodes).sum
  | []=>rfl
  | e :: r=>by simp [tb2 r,t5c e]
theorem taf (v : VV) : v.nodes = 1 + (v.parts.map VV.nodes).sum:=by
  cases v with | mk k n t kids keys ents labels =>
  rw [VV.nodes,t2o,t8g,tb2]
  show _ = 1 + ((kids ++ ents.flatMap EE.parts).map VV.nodes).sum
  simp
theorem tgn (v : VV) : 0 < v.nodes:=by rw [taf];omega
theorem tev : ∀ l : List VV,l.length ≤ (l.map VV.nodes).sum
  | []=>by simp
  | x :: r=>by have:=tev r;have:=tgn x;simp;omega
theorem tew : ∀ {l : List VV} {x : VV},x ∈ l → x.nodes ≤ (l.map VV.nodes).sum
  | y :: r,x,h=>by
    rcases List.mem_cons.1 h with rfl | h
    · simp
    · have:=tew h;simp;omega
theorem tc4 (v : VV) : v.parts.length < v.nodes:=by have:=tev v.parts;rw [taf];omega
theorem tfj {v x : VV} (h : x ∈ v.parts) : x.nodes < v.nodes:=by have:=tew h;rw [taf v];omega
theorem tit {v x : VV} (h : x ∈ v.parts) : x.ht < v.ht:=by
  rcases List.mem_append.1 h with h | h
  · exact t4q h
  · obtain ⟨e,he,hx⟩:=List.mem_flatMap.1 h
    have h1:=t5h he
    rcases List.mem_append.1 hx with hx | hx
    · have:=t4r hx;omega
    · cases hf : e.fails with
      | true=>rw [hf] at hx;simp at hx
      | false=>rw [hf] at hx;simp at hx;subst hx;have:=t4s e;omega
theorem tcn (e : EE) : e.validIn = e.parts.all VV.valid:=by
  rw [t8e,EE.parts,List.all_append]
  cases e.fails <;> simp
theorem tec (v : VV) : v.valid = (nodeV v && v.parts.all VV.valid):=by
  rw [t5o,VV.parts,List.all_append,List.all_flatMap]
  congr 2
  exact List.all_congr rfl fun e=>tcn e
def Ch {α : Type} (sz : Nat) (P : α → List Value → Prop) (L : List α) (cs : List Value) : Prop :=
  cs.length = L.length * sz ∧ ∀ i (h : i < L.length),P L[i] ((cs.drop (i * sz)).take sz)
theorem Ch.nil {α : Type} {sz : Nat} {P : α → List Value → Prop} : Ch sz P [] []:=⟨by simp,fun i h=>by simp at h⟩
theorem Ch.single {α : Type} {sz : Nat} {P : α → List Value → Prop} {x : α} {cs : List Value} (hl : cs.length = sz) (h : P x cs) : Ch sz P [x] cs:=by
  refine ⟨by simp [hl],fun i hi=>?_⟩
  obtain rfl : i = 0:=by simpa using hi
  rw [Nat.zero_mul,List.drop_zero,List.take_of_length_le (by omega)]
  exact h
theorem Ch.append {α : Type} {sz : Nat} {P : α → List Value → Prop} {L M : List α} {cs ds : List Value} (h : Ch sz P L cs) (k : Ch sz P M ds) : Ch sz P (L ++ M) (cs ++ ds):=by
  refine ⟨by rw [List.length_append,List.length_append,h.1,k.1,Nat.add_mul],fun i hi=>?_⟩
  by_cases hL : i < L.length
  · rw [List.getElem_append_left hL]
    have h1 : (i + 1) * sz ≤ cs.length:=by rw [h.1];exact Nat.mul_le_mul_right _ hL
    rw [Nat.add_mul,Nat.one_mul] at h1
    rw [List.drop_append_of_le_length (by omega),List.take_append_of_le_length (by rw [List.length_drop];omega)]
    exact h.2 i hL
  · have hi2 : i - L.length < M.length:=by rw [List.length_append] at hi;omega
    rw [List.getElem_append_right (by omega)]
    have h1 : i * sz = cs.length + (i - L.length) * sz:=by rw [h.1,← Nat.add_mul];congr 1;omega
    rw [h1,List.drop_append]
    have h2 : cs.drop (cs.length + (i - L.length) * sz) = []:=List.drop_eq_nil_of_le (by omega)
    rw [h2,List.nil_append,Nat.add_sub_cancel_left]
    exact k.2 _ hi2
theorem Ch.mono {α : Type} {sz : Nat} {P P' : α → List Value → Prop} {L : List α} {cs : List Value} (h : Ch sz P L cs) (hP : ∀ x cs,x ∈ L → P x cs → P' x cs) : Ch sz P' L cs :=
  ⟨h.1,fun i hi=>hP _ _ (List.getElem_mem hi) (h.2 i hi)⟩
theorem Ch.cells {α : Type} {sz : Nat} {P : α → List Value → Prop} {L : List α} {cs : List Value} (h : Ch sz P L cs) {R : Value → Prop} (hR : ∀ x cs,P x cs → ∀ u ∈ cs,R u) : ∀ u ∈ cs,R u:=by
  intro u hu
  obtain ⟨j,hj,rfl⟩:=List.mem_iff_getElem.1 hu
  have hl:=h.1
  have hsz : 0 < sz:=by
    rcases Nat.eq_zero_or_pos sz with rfl | h
    · simp at hl;subst hl;simp at hj
    · exact h
  have hi : j / sz < L.length:=by rw [Nat.div_lt_iff_lt_mul hsz];omega
  refine hR _ _ (h.2 _ hi) _ ?_
  have hm : j / sz * sz + j % sz = j:=by rw [Nat.mul_comm];exact Nat.div_add_mod j sz
  have hlt:=Nat.mod_lt j hsz
  rw [List.mem_iff_getElem]
  refine ⟨j % sz,by rw [List.length_take,List.length_drop];omega,?_⟩
  simp [hm]
theorem Rw.ch {α : Type} {w : World} {p : Option Addr} {c sz : Nat} {l : List α} {P : α → List Value → Prop} (h : Rw w p c sz l P) : ∃ cs,RC w sz p l.length cs ∧ Ch sz P l cs:=by
  obtain ⟨_,cs,h2,h3⟩:=h
  exact ⟨cs,h2,h2.1,h3⟩
theorem Rw.of_ch {α : Type} {w : World} {p : Option Addr} {c sz : Nat} {l : List α} {P : α → List Value → Prop} {cs : List Value} (h : RC w sz p l.length cs) (k : Ch sz P l cs) (hc : l.length ≤ c) (hm : l.length ≤ 9223372036854775807) : Rw w p c sz l P :=
  ⟨⟨hc,hm⟩,cs,h,k.2⟩
theorem t4m {w : World} {B n cap size : Nat} {e : TypeId} {p : Option Addr} {xs : List Value} (h : w.ownsRow B e size (.slice p n cap) n xs) : n ≤ cap:=by
  rcases h.2 with ⟨e1,h0⟩ | ⟨g,cap',cur,e1,_,_,h3,_⟩
  · omega
  · cases e1;exact h3
theorem t1o {α : Type} {w : World} {B size : Nat} {e : TypeId} {v : Value} {xs : List Value} {l : List α} {P : α → List Value → Prop} (h : w.ownsRow B e size v l.length xs) (k : Ch size P l xs) (hm : l.length ≤ 9223372036854775807) : ∃ p c,v = .slice p l.length c ∧ Rw w p c size l P:=by
  obtain ⟨p,cap,rfl⟩:=t0o h
  exact ⟨p,cap,rfl,Rw.of_ch (RC.of_own h) k (t4m h) hm⟩
theorem VS.one {w : World} {d : Nat} {V : VV} {cs : List Value} (h : VS w d V cs) : ∀ u ∈ cs,u.oneCell' = true:=by
  cases d with
  | zero=>exact h.elim
  | succ d=>obtain ⟨p1,c1,p2,c2,p3,c3,p4,c4,rfl,_⟩:=h;intro u hu;simp at hu;rcases hu with rfl | rfl | rfl | rfl | rfl | rfl | rfl <;> rfl
theorem ES.one {w : World} {d : Nat} {e : EE} {cs : List Value} (h : ES w d e cs) : ∀ u ∈ cs,u.oneCell' = true:=by
  obtain ⟨pa,ca,rs,rfl,h1,h2⟩:=h
  intro u hu
  rcases List.mem_cons.1 hu with rfl | hu
  · rfl
  rcases List.mem_cons.1 hu with rfl | hu
  · rfl
  exact h2.one u hu
theorem t1w : (Tryz.prog.info? 28).map (fun i=>(i.zero,i.size,i.bytes)) = some (some (.agg #[.int .i64 0,.int .i64 0,.string ⟨#[]⟩,.slice none 0 0,.slice none 0 0,.slice none 0 0,.slice none 0 0]),7,128):=by kernel_rfl
theorem t3q : (Tryz.prog.info? 55).map (fun i=>(i.zero,i.size,i.bytes)) = some (some (.agg #[.slice none 0 0,.bool false,.int .i64 0,.int .i64 0,.string ⟨#[]⟩,.slice none 0 0,.slice none 0 0,.slice none 0 0,.slice none 0 0]),9,160):=by kernel_rfl
theorem tex (p : Option Addr) (l c : Nat) (w : World) : (binOp .eql 23 (.slice p l c) (.slice none 0 0)).run Tryz.prog w = .ok (.bool p.isNone) w:=by
  cases p <;> simp [binOp,Op.equal,Op.equalIn,run_underlying (show Tryz.prog.underlying 23 = some (.slice 28) by kernel_rfl)] <;> rfl
theorem tfk (p : Option Addr) (n c : Nat) (cs : List Value) (w : World) (hr : RC w 7 p n cs) (h1 : ∀ u ∈ cs,u.oneCell' = true) (hn : n ≤ 1048576) :
    Calls Tryz.prog 108 #[.slice p n c] w fun e w'=>∃ v',e = .returned v' ∧ w'.ownsRow w.heap.size 28 7 v' n cs ∧ Below w.heap.size w w':=by
  cases p with
  | none =>
    have hn0 : n = 0:=by
      rcases Nat.eq_zero_or_pos n with h | h
      · exact h
      · obtain ⟨_,_,e,_⟩:=hr.2 h;cases e
    subst hn0
    have hcs : cs = []:=List.length_eq_zero_iff.1 (by have:=hr.1;omega)
    subst hcs
    have he:=tex none 0 c
    rw [show (none : Option Addr).isNone = true from rfl] at he
    clear hr h1
    go_enter Tryz.func108,Tryz.ntmps108
    go_wp2
    go_ret
    exact ⟨_,rfl,World.ownsRow_nil _ _ _ _,Below.refl _ _⟩
  | some ad =>
    have hal:=(Below.refl w.heap.size w).alloc (Nat.le_refl _) (.cells #[] 28)
    have hown : (w.alloc (.cells #[] 28)).ownsRow w.heap.size 28 7 (.slice (some ⟨w.heap.size,0,none⟩) 0 0) 0 [] :=
      ⟨rfl,.inr ⟨w.heap.size,0,#[],rfl,Nat.le_refl _,heap_alloc_new _ _,Nat.le_refl _,by decide,rfl,rfl⟩⟩
    have Hr:=zH (hr.below hal)
    have Hal:=zH hal;have Hown:=zH hown;have H1:=zH h1
    have hsz:=hal.size
    clear hr hal hown h1
    have he:=tex (some ad) n c
    rw [show (some ad).isNone = false from rfl] at he
    have hl0 : (0 : Nat) + n ≤ 67108864:=by omega
    go_enter Tryz.func108,Tryz.ntmps108
    go_wp2_with (first
      | (at_builtin;go_loud (refine t0y rfl (.tmp 5) (.tmp 6) 23 rfl 28 (by kernel_rfl) t1w rfl (by decide) (by decide) w.heap.size _ (some ad) 0 n c [] cs hsz (.slice (some ⟨w.heap.size,0,none⟩) 0 0) rfl rfl Hown.out Hr.out H1.out hl0 ?_);intro v' w' ho hf;have Ho:=zH ho;have Hbe:=zH (hf.below hsz (by simp) (fun g hg=>by simp [Value.ownBlock] at hg;omega));clear ho hf))
    go_ret
    exact ⟨_,rfl,by have:=Ho.out;rwa [Nat.zero_add,List.nil_append] at this,Hal.out.trans Hbe.out⟩
end Go.Proofs.YtjgldaaofdpcgaaGreat
namespace Go.Proofs.YtjgldaaofdpcgaaGreat
open Go.RowKit
set_option maxRecDepth 100000

def we (E : Nat → Bool) (w : World) : World:={ w with heap:=w.heap.mapIdx fun k o=>if E k then .cells #[] 0 else o }
theorem t0i (E : Nat → Bool) (w : World) : (we E w).heap.size = w.heap.size:=by simp [we]
theorem we_at {E : Nat → Bool} {k : Nat} {w : World} (h : E k = false) : (we E w).heap[k]? = w.heap[k]?:=by
  simp only [we,Array.getElem?_mapIdx,h]
  cases w.heap[k]? <;> rfl
theorem t3c {E : Nat → Bool} {k : Nat} {w : World} (h : E k = true) : (we E w).heap[k]? = if k < w.heap.size then some (.cells #[] 0) else none:=by
  simp only [we,Array.getElem?_mapIdx,h]
  by_cases g : k < w.heap.size
  · rw [if_pos g,Array.getElem?_eq_getElem g];rfl
  · rw [if_neg g,Array.getElem?_eq_none (by omega)];rfl
theorem t1j {E : Nat → Bool} {a o : Nat} {w : World} {v : Value} (h : (we E w).cell? ⟨a,o,none⟩ = some v) : E a = false ∧ w.cell? ⟨a,o,none⟩ = some v:=by
  cases e : E a with
  | true =>
    exfalso
    unfold World.cell? at h
    rw [t3c e] at h
    by_cases g : a < w.heap.size
    · simp [g] at h
    · simp [g] at h
  | false=>exact ⟨rfl,by rwa [t6h (we_at e)] at h⟩
def wo (b : Nat) (w : World) : World:=we (fun k=>k == b) w
theorem t1e (b : Nat) (w : World) : (wo b w).heap.size = w.heap.size:=t0i _ w
theorem wo_at {b k : Nat} {w : World} (h : k ≠ b) : (wo b w).heap[k]? = w.heap[k]?:=we_at (by simp [h])
theorem tiu {b : Nat} {w : World} : (wo b w).heap[b]? = if b < w.heap.size then some (.cells #[] 0) else none:=t3c (by simp)
theorem t0l {b a o : Nat} {w : World} {v : Value} (h : (wo b w).cell? ⟨a,o,none⟩ = some v) : w.cell? ⟨a,o,none⟩ = some v:=(t1j h).2
structure Sub (w w' : World) : Prop where
  size : w.heap.size ≤ w'.heap.size
  cell : ∀ a o v,w.cell? ⟨a,o,none⟩ = some v → w'.cell? ⟨a,o,none⟩ = some v
theorem t4b (E : Nat → Bool) (w : World) : Sub (we E w) w:=⟨Nat.le_of_eq (t0i E w),fun _ _ _ h=>(t1j h).2⟩
theorem t2s {E F : Nat → Bool} (w : World) (h : ∀ k,F k = true → E k = true) : Sub (we E w) (we F w):=by
  refine ⟨by rw [t0i,t0i];exact Nat.le_refl _,fun a o v hv=>?_⟩
  obtain ⟨h1,h2⟩:=t1j hv
  have h3 : F a = false:=by
    cases e : F a with
    | false=>rfl
    | true=>rw [h a e] at h1;cases h1
  rwa [t6h (we_at h3)]
theorem tgo (b : Nat) (w : World) : Sub (wo b w) w:=t4b _ w
theorem RC.sub {w w' : World} (hs : Sub w w') {size n : Nat} {A : Option Addr} {cs : List Value} (h : RC w size A n cs) : RC w' size A n cs :=
  ⟨h.1,fun hn=>by
    obtain ⟨a,o,h1,h2,h3⟩:=h.2 hn
    exact ⟨a,o,h1,Nat.lt_of_lt_of_le h2 hs.size,fun j u hu=>hs.cell _ _ _ (h3 j u hu)⟩⟩
theorem IS.sub {w w' : World} (hs : Sub w w') {v : Value} {xs : List Int} (h : IS w v xs) : IS w' v xs:=by
  obtain ⟨p,c,e,h1,h2⟩:=h;exact ⟨p,c,e,h1,h2.sub hs⟩
theorem Rw.sub {w w' : World} (hs : Sub w w') {α : Type} {p : Option Addr} {c sz : Nat} {l : List α} {P P' : α → List Value → Prop} (h : Rw w p c sz l P) (hP : ∀ x cs,x ∈ l → P x cs → P' x cs) : Rw w' p c sz l P':=by
  obtain ⟨h1,cs,h2,h3⟩:=h
  exact ⟨h1,cs,h2.sub hs,fun i hi=>hP _ _ (List.getElem_mem hi) (h3 i hi)⟩
theorem VS.sub {w w' : World} (hs : Sub w w') : ∀ {d : Nat} {V : VV} {cs : List Value},VS w d V cs → VS w' d V cs:=by
  intro d
  induction d with
  | zero=>intro V cs h;exact h
  | succ d ih =>
    intro V cs h
    obtain ⟨p1,c1,p2,c2,p3,c3,p4,c4,e,h1,h2,h3,h4⟩:=h
    refine ⟨p1,c1,p2,c2,p3,c3,p4,c4,e,h1.sub hs fun _ _ _ h=>ih h,h2.sub hs fun _ _ _ h=>h,h3.sub hs fun e cs _ h=>?_,h4.sub hs fun _ _ _ h=>h⟩
    obtain ⟨pa,ca,rs,e1,e2,e3⟩:=h
    exact ⟨pa,ca,rs,e1,e2.sub hs fun _ _ _ h=>ih h,ih e3⟩
theorem ES.sub {w w' : World} (hs : Sub w w') {d : Nat} {e : EE} {cs : List Value} (h : ES w d e cs) : ES w' d e cs:=by
  obtain ⟨pa,ca,rs,e1,e2,e3⟩:=h
  exact ⟨pa,ca,rs,e1,e2.sub hs fun _ _ _ h=>h.sub hs,e3.sub hs⟩
theorem ES.up {w : World} {d f : Nat} {e : EE} {cs : List Value} (h : ES w d e cs) (hd : d ≤ f) : ES w f e cs:=by
  obtain ⟨pa,ca,rs,e1,e2,e3⟩:=h
  exact ⟨pa,ca,rs,e1,e2.mono fun _ _ _ h=>h.up hd,e3.up hd⟩
theorem VW.sub {w w' : World} (hs : Sub w w') {v : Value} {V : VV} (h : VW w v V) : VW w' v V:=by
  obtain ⟨d,cs,e,h⟩:=h;exact ⟨d,cs,e,h.sub hs⟩
theorem NC.sub {w w' : World} (hs : Sub w w') {n : TN} {cs : List Value} (h : NC w n cs) : NC w' n cs:=by
  obtain ⟨p1,c1,p2,c2,e,h1,h2⟩:=h
  exact ⟨p1,c1,p2,c2,e,h1.sub hs,h2.sub hs fun _ _ _ h=>h⟩
theorem TS.sub {w w' : World} (hs : Sub w w') {v : Value} {T : Ty} (h : TS w v T) : TS w' v T:=by
  obtain ⟨p,c,e,h,h2⟩:=h
  exact ⟨p,c,e,h.sub hs fun _ _ _ h=>h.sub hs,h2⟩
theorem KS.sub {w w' : World} (hs : Sub w w') {v : Value} {l : List VV} (h : KS w v l) : KS w' v l:=by
  obtain ⟨d,p,c,e,h⟩:=h
  exact ⟨d,p,c,e,h.sub hs fun _ _ _ h=>h.sub hs⟩
theorem EY.sub {w w' : World} (hs : Sub w w') {v : Value} {l : List EE} (h : EY w v l) : EY w' v l:=by
  obtain ⟨d,p,c,e,h⟩:=h
  exact ⟨d,p,c,e,h.sub hs fun _ _ _ h=>h.sub hs⟩
theorem SS.sub {w w' : World} (hs : Sub w w') {v : Value} {l : List ByteArray} (h : SS w v l) : SS w' v l:=by
  obtain ⟨p,c,e,h⟩:=h;exact ⟨p,c,e,h.sub hs fun _ _ _ h=>h⟩
theorem KY.sub {w w' : World} (hs : Sub w w') {v : Value} {l : List KK} (h : KY w v l) : KY w' v l:=by
  obtain ⟨p,c,e,h⟩:=h;exact ⟨p,c,e,h.sub hs fun _ _ _ h=>h⟩
theorem t1k {B : Nat} {E : Nat → Bool} {w w' : World} (h : Below B w w') : Below B (we E w) (we E w'):=by
  refine ⟨h.os,h.tape,h.output,by rw [t0i,t0i];exact h.size,fun k hk=>?_⟩
  cases e : E k with
  | true =>
    rw [t3c e,t3c e]
    have h1:=h.block k hk
    by_cases g : k < w.heap.size
    · rw [if_pos g,if_pos (Nat.lt_of_lt_of_le g h.size)]
    · rw [if_neg g,if_neg]
      intro g2
      have e1 : w.heap[k]? = none:=Array.getElem?_eq_none (by omega)
      rw [e1] at h1
      have:=Array.getElem?_eq_none_iff.1 h1
      omega
  | false=>rw [we_at e,we_at e];exact h.block k hk
theorem t1n {B b : Nat} {E : Nat → Bool} {o : Obj} {w w' : World} (h : Upd b o w w') (hE : E b = true) : Below B (we E w) (we E w'):=by
  refine ⟨h.os,h.tape,h.output,by rw [t0i,t0i,h.size];exact Nat.le_refl _,fun k _=>?_⟩
  cases e : E k with
  | true=>rw [t3c e,t3c e,h.size]
  | false =>
    rw [we_at e,we_at e]
    exact h.other k fun g=>by rw [g,hE] at e;cases e
theorem t2n {B b : Nat} {w w' : World} (h : Below B w w') : Below B (wo b w) (wo b w'):=t1k h
theorem t3e {B b : Nat} {o : Obj} {w w' : World} (h : Upd b o w w') : Below B (wo b w) (wo b w'):=t1n h (by simp)
theorem wo_un {B B' b : Nat} {w w' : World} (h : Below B (wo b w) (wo b w')) (hb : B' ≤ b) (hB : B' ≤ B) : Below B' w w':=by
  refine ⟨h.os,h.tape,h.output,by have:=h.size;rwa [t1e,t1e] at this,fun k hk=>?_⟩
  have:=h.block k (by omega)
  rwa [wo_at (by omega),wo_at (by omega)] at this
theorem we_in {B : Nat} {E : Nat → Bool} {w : World} (hE : ∀ k,k < B → E k = false) : Below B w (we E w):=⟨rfl,rfl,rfl,by rw [t0i];exact Nat.le_refl _,fun k hk=>we_at (hE k hk)⟩
theorem wo_in {B b : Nat} {w : World} (hb : B ≤ b) : Below B w (wo b w):=we_in fun k hk=>by simp;omega
def Old (E : Nat → Bool) (n : Nat) : Prop:=∀ k,n ≤ k → E k = false
theorem Old.mono {E : Nat → Bool} {m n : Nat} (h : Old E m) (hm : m ≤ n) : Old E n:=fun k hk=>h k (by omega)
theorem t1r {E : Nat → Bool} {B n : Nat} {e : TypeId} {size : Nat} {v : Value} {xs : List Value} {w : World} (h : w.ownsRow B e size v n xs) (hE : Old E B) : (we E w).ownsRow B e size v n xs :=
  t3o h fun g hg=>we_at (hE g (h.lt g hg).1)
def ex (E : Nat → Bool) (x : Nat) : Nat → Bool:=fun k=>E k || k == x
theorem t9q (E : Nat → Bool) (x : Nat) (w : World) : Sub (we (ex E x) w) (we E w):=t2s w fun k h=>by simp [ex,h]
theorem t3f {E : Nat → Bool} {x n : Nat} (h : Old E n) (hx : x < n) : Old (ex E x) n:=fun k hk=>by simp [ex,h k hk];omega
theorem ex_in {E : Nat → Bool} {x B : Nat} {w : World} (hx : B ≤ x) : Below B (we E w) (we (ex E x) w):=by
  refine ⟨rfl,rfl,rfl,by rw [t0i,t0i];exact Nat.le_refl _,fun k hk=>?_⟩
  cases e : E k with
  | true=>rw [t3c e,t3c (by simp [ex,e])]
  | false=>rw [we_at e,we_at (by simp [ex,e];omega)]
theorem t4c {E : Nat → Bool} {x B : Nat} {w : World} (hE : E x = true) (cs : Array Value) : Below B (we E w) (we E (w.setRow x cs)):=by
  have hs : (w.setRow x cs).heap.size = w.heap.size:=size_setRow _ _ _
  refine ⟨rfl,rfl,rfl,by rw [t0i,t0i,hs];exact Nat.le_refl _,fun k _=>?_⟩
  cases e : E k with
  | true=>rw [t3c e,t3c e,hs]
  | false =>
    rw [we_at e,we_at e]
    exact setRow_other _ _ _ _ fun g=>by rw [g,hE] at e;cases e
def lo (B : Nat) : Nat → Bool:=fun k=>decide (k < B)
theorem t1g (B : Nat) : Old (lo B) B:=fun k hk=>by simp [lo];omega
theorem t1m {A B : Nat} (w : World) (h : A ≤ B) : Sub (we (lo B) w) (we (lo A) w):=t2s w fun k hk=>by simp [lo] at hk ⊢;omega
theorem t4d {B : Nat} {E : Nat → Bool} (w : World) (h : Old E B) : Sub (we (lo B) w) (we E w):=t2s w fun k hk=>by
  simp only [lo,decide_eq_true_eq]
  by_cases g : k < B
  · exact g
  · rw [h k (by omega)] at hk;cases hk
theorem t0b {w w' : World} (hb : Below w.heap.size w w') {a o : Nat} {v : Value} (h : w.cell? ⟨a,o,none⟩ = some v) : w'.cell? ⟨a,o,none⟩ = some v:=by
  by_cases e : a < w.heap.size
  · exact (hb.cell (p:=⟨a,_,none⟩) e).trans h
  · exfalso
    unfold World.cell? at h
    have e1 : w.heap[a]? = none:=Array.getElem?_eq_none (by omega)
    simp [e1] at h
structure SD where
  b : Nat
  p : Option Addr
  c : Nat
  L : List Int
structure SRC (S : SD) (w : World) : Prop where
  blk : ∃ i : Nat,i ≤ S.L.length ∧ w.heap[S.b]? = some (.cells #[.slice S.p S.L.length S.c,.int .i64 (i : Int)] 39)
  row : IS (wo S.b w) (.slice S.p S.L.length S.c) S.L
  len : S.L.length ≤ 1000
structure SR (S : SD) (w w' : World) : Prop where
  fr : Below w.heap.size (wo S.b w) (wo S.b w')
  src0 : SRC S w
  src : SRC S w'
theorem SRC.lt {S : SD} {w : World} (h : SRC S w) : S.b < w.heap.size:=by obtain ⟨_,_,h⟩:=h.blk;exact t0a h
theorem SRC.below {S : SD} {w w' : World} (h : SRC S w) (hb : Below w.heap.size w w') : SRC S w':=by
  obtain ⟨i,h1,h2⟩:=h.blk
  exact ⟨⟨i,h1,(hb.block _ (t0a h2)).trans h2⟩,h.row.below (by rw [t1e];exact t2n hb),h.len⟩
theorem SR.refl {S : SD} {w : World} (h : SRC S w) : SR S w w:=⟨Below.refl _ _,h,h⟩
theorem SR.size {S : SD} {w w' : World} (h : SR S w w') : w.heap.size ≤ w'.heap.size:=by have:=h.fr.size;rwa [t1e,t1e] at this
theorem SR.trans {S : SD} {w w1 w2 : World} (h : SR S w w1) (k : SR S w1 w2) : SR S w w2:=⟨h.fr.trans (k.fr.mono h.size),h.src0,k.src⟩
theorem SR.step {S : SD} {w w1 w2 : World} (h : SR S w w1) (k : Below w1.heap.size w1 w2) : SR S w w2:=⟨h.fr.trans ((t2n k).mono h.size),h.src0,h.src.below k⟩
theorem SR.own {S : SD} {w w1 w2 : World} (h : SR S w w1) (k : Below w.heap.size w1 w2) (hb : w2.heap[S.b]? = w1.heap[S.b]?) : SR S w w2:=by
  have hf:=h.fr.trans (t2n (b:=S.b) k)
  obtain ⟨i,h1,h2⟩:=h.src.blk
  exact ⟨hf,h.src0,⟨i,h1,hb.trans h2⟩,h.src0.row.below (by rw [t1e];exact hf),h.src0.len⟩
theorem SR.bel {S : SD} {w w' : World} (h : SR S w w') : Below (wo S.b w).heap.size (wo S.b w) (wo S.b w'):=by rw [t1e];exact h.fr
theorem SR.block {S : SD} {w w' : World} {k : Nat} (h : SR S w w') (hk : k < w.heap.size) (hb : k ≠ S.b) : w'.heap[k]? = w.heap[k]?:=by
  have:=h.fr.block k hk
  rwa [wo_at hb,wo_at hb] at this
theorem SR.old {S : SD} {w w' : World} {B : Nat} (h : SR S w w') (hb : B ≤ S.b) : Below B w w':=wo_un h.fr hb (by have:=h.src0.lt;omega)
theorem SR.we {S : SD} {w w' : World} {E : Nat → Bool} (h : SR S w w') (hE : E S.b = true) : Below w.heap.size (we E w) (we E w'):=by
  refine ⟨h.fr.os,h.fr.tape,h.fr.output,by rw [t0i,t0i];exact h.size,fun k hk=>?_⟩
  cases e : E k with
  | true=>rw [t3c e,t3c e,if_pos hk,if_pos (Nat.lt_of_lt_of_le hk h.size)]
  | false =>
    rw [we_at e,we_at e]
    exact h.block hk fun g=>by rw [g,hE] at e;cases e
theorem SR.alloc {S : SD} {w : World} (h : SRC S w) (o : Obj) : SR S w (w.alloc o):=(SR.refl h).step ((Below.refl _ _).alloc (Nat.le_refl _) _)
theorem SR.drew {S : SD} {w w' : World} (h : SR S w w') : SR S w w'.drew:=⟨⟨h.fr.os,h.fr.tape,h.fr.output,h.fr.size,h.fr.block⟩,h.src0,h.src.blk,h.src.row,h.src.len⟩
end Go.Proofs.YtjgldaaofdpcgaaGreat
namespace Go.Proofs.YtjgldaaofdpcgaaGreat
open Go.RowKit
set_option maxRecDepth 100000
structure MI (w : World) (b n : Nat) (f : Nat → Int) : Prop where
  ex : ∃ tc : Array Value,w.heap[b]? = some (.cells tc 3) ∧ ∀ m,m < n → tc[m]? = some (.int .i64 (f m))
theorem MI.cell {w : World} {b n : Nat} {f : Nat → Int} (h : MI w b n f) {m : Nat} (hm : m < n) : w.cell? ⟨b,m,none⟩ = some (.int .i64 (f m)):=by
  obtain ⟨tc,h1,h2⟩:=h.ex
  simp [World.cell?,h1,h2 m hm]
theorem MI.at {w w' : World} {b n : Nat} {f : Nat → Int} (h : MI w b n f) (e : w'.heap[b]? = w.heap[b]?) : MI w' b n f:=by
  obtain ⟨tc,h1,h2⟩:=h.ex
  exact ⟨tc,e.trans h1,h2⟩
theorem MI.lt {w : World} {b n : Nat} {f : Nat → Int} (h : MI w b n f) : b < w.heap.size:=by
  obtain ⟨tc,h1,h2⟩:=h.ex
  exact t0a h1
theorem MI.below {w w' : World} {b n : Nat} {f : Nat → Int} (h : MI w b n f) (hb : Below w.heap.size w w') : MI w' b n f:=h.at (hb.block _ h.lt)
theorem MI.free {w : World} {b n : Nat} {f : Nat → Int} (h : MI w b n f) (i : Nat) : w.frozen? ⟨b,i,none⟩ = false:=by
  obtain ⟨tc,h1,h2⟩:=h.ex
  simp [World.frozen?,h1]
theorem MI.set {w : World} {b n : Nat} {f : Nat → Int} (h : MI w b n f) {k : Nat} (hk : k < n) (x : Int) : MI (w.setCell ⟨b,k,none⟩ (.int .i64 x)) b n (fun m=>if m = k then x else f m) ∧ ∃ o,Upd b o w (w.setCell ⟨b,k,none⟩ (.int .i64 x)):=by
  obtain ⟨tc,h1,h2⟩:=h.ex
  have hU:=Upd.set (i:=k) (v:=.int .i64 x) (Upd.refl h1)
  refine ⟨⟨_,hU.blk,fun m hm=>?_⟩,_,hU⟩
  have hl : k < tc.size:=by
    have:=h2 k hk
    exact (Array.getElem?_eq_some_iff.1 this).1
  rw [Array.getElem?_setIfInBounds]
  by_cases e : k = m
  · subst e;simp [hl]
  · rw [if_neg e,if_neg (fun e2=>e e2.symm)];exact h2 m hm
theorem MI.made (w : World) (n : Nat) : MI (w.alloc (.cells (madeCells #[.int .i64 0] n) 3)) w.heap.size n fun _=>0:=by
  refine ⟨_,heap_alloc_new w _,fun m hm=>?_⟩
  simp [madeCells,hm,Nat.mod_one]
structure MB (w : World) (b n : Nat) (f : Nat → Bool) : Prop where
  ex : ∃ tc : Array Value,w.heap[b]? = some (.cells tc 4) ∧ ∀ m,m < n → tc[m]? = some (.bool (f m))
theorem MB.cell {w : World} {b n : Nat} {f : Nat → Bool} (h : MB w b n f) {m : Nat} (hm : m < n) : w.cell? ⟨b,m,none⟩ = some (.bool (f m)):=by
  obtain ⟨tc,h1,h2⟩:=h.ex
  simp [World.cell?,h1,h2 m hm]
theorem MB.at {w w' : World} {b n : Nat} {f : Nat → Bool} (h : MB w b n f) (e : w'.heap[b]? = w.heap[b]?) : MB w' b n f:=by
  obtain ⟨tc,h1,h2⟩:=h.ex
  exact ⟨tc,e.trans h1,h2⟩
theorem MB.lt {w : World} {b n : Nat} {f : Nat → Bool} (h : MB w b n f) : b < w.heap.size:=by
  obtain ⟨tc,h1,h2⟩:=h.ex
  exact t0a h1
theorem MB.below {w w' : World} {b n : Nat} {f : Nat → Bool} (h : MB w b n f) (hb : Below w.heap.size w w') : MB w' b n f:=h.at (hb.block _ h.lt)
theorem MB.free {w : World} {b n : Nat} {f : Nat → Bool} (h : MB w b n f) (i : Nat) : w.frozen? ⟨b,i,none⟩ = false:=by
  obtain ⟨tc,h1,h2⟩:=h.ex
  simp [World.frozen?,h1]
theorem MB.set {w : World} {b n : Nat} {f : Nat → Bool} (h : MB w b n f) {k : Nat} (hk : k < n) (x : Bool) : MB (w.setCell ⟨b,k,none⟩ (.bool x)) b n (fun m=>if m = k then x else f m) ∧ ∃ o,Upd b o w (w.setCell ⟨b,k,none⟩ (.bool x)):=by
  obtain ⟨tc,h1,h2⟩:=h.ex
  have hU:=Upd.set (i:=k) (v:=.bool x) (Upd.refl h1)
  refine ⟨⟨_,hU.blk,fun m hm=>?_⟩,_,hU⟩
  have hl : k < tc.size:=by
    have:=h2 k hk
    exact (Array.getElem?_eq_some_iff.1 this).1
  rw [Array.getElem?_setIfInBounds]
  by_cases e : k = m
  · subst e;simp [hl]
  · rw [if_neg e,if_neg (fun e2=>e e2.symm)];exact h2 m hm
theorem MB.made (w : World) (n : Nat) : MB (w.alloc (.cells (madeCells #[.bool false] n) 4)) w.heap.size n fun _=>false:=by
  refine ⟨_,heap_alloc_new w _,fun m hm=>?_⟩
  simp [madeCells,hm,Nat.mod_one]
theorem tgp : (Tryz.prog.info? 4).map (fun i=>(i.zero,i.size,i.bytes)) = some (some (.bool false),1,1):=by kernel_rfl
end Go.Proofs.YtjgldaaofdpcgaaGreat
