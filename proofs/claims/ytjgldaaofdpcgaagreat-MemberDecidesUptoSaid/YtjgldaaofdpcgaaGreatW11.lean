/- Walks and plain facts for the laws of membership, for all values and types that the heap holds (texts V2 M9 K3). -/
import Derived.Test.YtjgldaaofdpcgaaGreatW03
import Derived.Test.YtjgldaaofdpcgaaGreatW05
import Derived.Test.YtjgldaaofdpcgaaGreatW09
import Derived.Test.YtjgldaaofdpcgaaGreatW10
set_option linter.unusedVariables false
set_option linter.unusedSimpArgs false
namespace Go.Proofs.YtjgldaaofdpcgaaGreat
inductive BW (T : Ty) : Nat → Nat → Prop
  | one {i k : Nat} : i < T.len → (T.node (i : Nat)).bool = true → (k : Int) ∈ (T.node (i : Nat)).kids → BW T i k
  | step {i j k : Nat} : BW T i j → j < T.len → (T.node (j : Nat)).bool = true → (k : Int) ∈ (T.node (j : Nat)).kids → BW T i k
theorem BW.rk {T : Ty} {rk : Nat → Nat} (h : RkT T rk) {i k : Nat} (w : BW T i k) : rk k < rk i:=by
  induction w with
  | one hi hb hk=>exact h _ hi hb _ hk
  | step _ hj hb hk ih=>have:=h _ hj hb _ hk;simp only [Int.toNat_natCast] at this;omega
theorem BW.cyc {T : Ty} {i : Nat} (w : BW T i i) : ¬ Ctr T:=fun ⟨rk,h⟩=>by have:=w.rk h;omega
def KidsT (T : Ty) : Prop:=∀ i,i < T.len → (T.node (i : Nat)).bool = true → ∀ k ∈ (T.node (i : Nat)).kids,T.has k = true
theorem t3t {T : Ty} {k : Int} (h : T.has k = true) : ∃ m : Nat,k = (m : Int) ∧ m < T.len:=by
  obtain ⟨h0,h1⟩:=has_iff.1 h
  exact ⟨k.toNat,by omega,by omega⟩
structure DfI (T : Ty) (f : Nat → Int) (O : List Nat) : Prop where
  range : ∀ i,i < T.len → f i = 0 ∨ f i = 1 ∨ f i = 2
  opn : ∀ i,i < T.len → f i = 1 → i ∈ O
  all : ∀ i ∈ O,i < T.len ∧ f i = 1
  rk : ∃ rk : Nat → Nat,∀ i,i < T.len → f i = 2 → ∀ k : Nat,(k : Int) ∈ (T.node (i : Nat)).kids → (T.node (k : Nat)).bool = true → f k = 2 ∧ rk k < rk i
theorem DfI.start (T : Ty) : DfI T (fun _=>0) []:=⟨fun _ _=>.inl rfl,fun _ _ h=>by simp at h,fun _ h=>by simp at h,fun _=>0,fun _ _ h=>by simp at h⟩
theorem DfI.push {T : Ty} {f : Nat → Int} {O : List Nat} (h : DfI T f O) {i : Nat} (hi : i < T.len) (h0 : f i = 0) : DfI T (fun m=>if m = i then 1 else f m) (i :: O):=by
  refine ⟨fun m hm=>?_,fun m hm h1=>?_,fun m hm=>?_,?_⟩
  · by_cases e : m = i
    · simp [e]
    · simp [e,h.range m hm]
  · by_cases e : m = i
    · simp [e]
    · exact List.mem_cons_of_mem _ (h.opn m hm (by simpa [e] using h1))
  · rcases List.mem_cons.1 hm with rfl | hm
    · exact ⟨hi,by simp⟩
    · obtain ⟨h1,h2⟩:=h.all m hm
      refine ⟨h1,?_⟩
      by_cases e : m = i
      · simp [e]
      · simp [e,h2]
  · obtain ⟨rk,hr⟩:=h.rk
    refine ⟨rk,fun m hm h2 k hk hb=>?_⟩
    by_cases e : m = i
    · simp [e] at h2
    · obtain ⟨g1,g2⟩:=hr m hm (by simpa [e] using h2) k hk hb
      refine ⟨?_,g2⟩
      by_cases e2 : k = i
      · subst e2;omega
      · simp [e2,g1]
theorem DfI.pop {T : Ty} {f : Nat → Int} {O : List Nat} {i : Nat} (h : DfI T f (i :: O)) (hO : i ∉ O) (hk : ∀ k : Nat,(k : Int) ∈ (T.node (i : Nat)).kids → (T.node (k : Nat)).bool = true → f k = 2) :
    DfI T (fun m=>if m = i then 2 else f m) O:=by
  obtain ⟨hi,h1⟩:=h.all i (by simp)
  refine ⟨fun m hm=>?_,fun m hm h2=>?_,fun m hm=>?_,?_⟩
  · by_cases e : m = i
    · simp [e]
    · simp [e,h.range m hm]
  · by_cases e : m = i
    · simp [e] at h2
    · rcases List.mem_cons.1 (h.opn m hm (by simpa [e] using h2)) with g | g
      · exact absurd g e
      · exact g
  · obtain ⟨g1,g2⟩:=h.all m (List.mem_cons_of_mem _ hm)
    refine ⟨g1,?_⟩
    have e : m ≠ i:=fun e=>hO (e ▸ hm)
    simp [e,g2]
  · obtain ⟨rk,hr⟩:=h.rk
    refine ⟨fun m=>if m = i then ((T.node (i : Nat)).kids.map fun k=>rk k.toNat).foldl max 0 + 1 else rk m,fun m hm h2 k hk2 hb=>?_⟩
    by_cases e : m = i
    · subst e
      have g:=hk k hk2 hb
      have e2 : k ≠ m:=fun e=>by subst e;omega
      refine ⟨by simp [e2,g],?_⟩
      have:=(t6u ((T.node (m : Nat)).kids.map fun k=>rk k.toNat) 0).2 (rk k) (List.mem_map.2 ⟨_,hk2,by simp⟩)
      simp only [e2,if_false,if_true]
      omega
    · obtain ⟨g1,g2⟩:=hr m hm (by simpa [e] using h2) k hk2 hb
      have e2 : k ≠ i:=fun e=>by subst e;omega
      exact ⟨by simp [e2,g1],by simp [e,e2,g2]⟩
theorem DfI.done {T : Ty} {f : Nat → Int} (h : DfI T f []) (hk : KidsT T) (ha : ∀ i,i < T.len → (T.node (i : Nat)).bool = true → f i = 2) : Ctr T:=by
  obtain ⟨rk,hr⟩:=h.rk
  refine ⟨fun m=>if (T.node (m : Nat)).bool then rk m + 1 else 0,fun i hi hb k hk2=>?_⟩
  obtain ⟨m,rfl,hm⟩:=t3t (hk i hi hb k hk2)
  simp only [Int.toNat_natCast,hb,if_true]
  cases hbm : (T.node (m : Nat)).bool
  · simp
  · have:=(hr i hi (ha i hi hb) m hk2 hbm).2
    simp;omega
def zeros (n : Nat) (f : Nat → Int) : Nat:=(List.range n).countP fun i=>decide (f i = 0)
theorem thq {n : Nat} {f g : Nat → Int} (h : ∀ i,i < n → g i = 0 → f i = 0) {i : Nat} (hi : i < n) (h1 : f i = 0) (h2 : g i ≠ 0) : zeros n g < zeros n f:=by
  unfold zeros
  induction n with
  | zero=>omega
  | succ n ih =>
    rw [List.range_succ,List.countP_append,List.countP_append]
    simp only [List.countP_cons,List.countP_nil,Nat.zero_add,decide_eq_true_eq]
    have key : ∀ m,(∀ i,i < m → g i = 0 → f i = 0) → (List.range m).countP (fun i=>decide (g i = 0)) ≤ (List.range m).countP (fun i=>decide (f i = 0)):=fun m hm=>by
      refine List.countP_mono_left fun x hx h3=>?_
      have:=hm x (List.mem_range.1 hx) (by simpa using h3)
      simpa using this
    by_cases e : i = n
    · subst e
      have:=key i fun m hm=>h m (by omega)
      rw [if_neg h2,if_pos h1];omega
    · have:=ih (fun m hm=>h m (by omega)) (by omega)
      by_cases g0 : g n = 0
      · rw [if_pos g0,if_pos (h n (by omega) g0)];omega
      · rw [if_neg g0];omega
structure RoI (T : Ty) (g : Nat → Bool) : Prop where
  rk : ∃ rk : Nat → Nat,∀ i,i < T.len → g i = true → (T.node (i : Nat)).bool = true → ∀ k : Nat,(k : Int) ∈ (T.node (i : Nat)).kids → g k = true ∧ rk k < rk i
def okR (T : Ty) (g : Nat → Bool) (i : Nat) : Bool:=!(T.node (i : Nat)).bool || (T.node (i : Nat)).kids.all fun k=>g k.toNat
def stepR (T : Ty) (g : Nat → Bool) (i : Nat) : Nat → Bool:=fun m=>if m = i then g i || okR T g i else g m
def t2u (T : Ty) (g : Nat → Bool) (k : Nat) : Nat → Bool:=(List.range k).foldl (stepR T) g
theorem t4x (T : Ty) (g : Nat → Bool) (k : Nat) : t2u T g (k + 1) = stepR T (t2u T g k) k:=by unfold t2u;rw [List.range_succ,List.foldl_append];rfl
def itR (T : Ty) : Nat → Nat → Bool
  | 0=>fun _=>false
  | r + 1=>t2u T (itR T r) T.len
theorem t6h {T : Ty} {g : Nat → Bool} {i m : Nat} (h : g m = true) : stepR T g i m = true:=by
  unfold stepR
  by_cases e : m = i
  · subst e;simp [h]
  · simp [e,h]
theorem t5v {T : Ty} {g : Nat → Bool} {m : Nat} (h : g m = true) : ∀ k,t2u T g k m = true
  | 0=>by unfold t2u;simpa using h
  | k + 1=>by rw [t4x];exact t6h (t5v h k)
theorem RoI.start (T : Ty) : RoI T fun _=>false:=⟨fun _=>0,fun _ _ h=>by simp at h⟩
theorem RoI.step {T : Ty} (hk : KidsT T) {g : Nat → Bool} (h : RoI T g) {i : Nat} (hi : i < T.len) : RoI T (stepR T g i):=by
  obtain ⟨rk,hr⟩:=h.rk
  by_cases hg : g i = true
  · have e : stepR T g i = g:=by
      funext m
      unfold stepR
      by_cases e : m = i
      · subst e;simp [hg]
      · simp [e]
    rw [e];exact h
  · refine ⟨fun m=>if m = i then ((T.node (i : Nat)).kids.map fun k=>rk k.toNat).foldl max 0 + 1 else rk m,fun m hm h2 hb k hk2=>?_⟩
    by_cases e : m = i
    · subst e
      have hok : okR T g m = true:=by
        unfold stepR at h2
        simpa [hg] using h2
      have g1 : g k = true:=by
        unfold okR at hok
        rw [hb,Bool.not_true,Bool.false_or,List.all_eq_true] at hok
        simpa using hok _ hk2
      have e2 : k ≠ m:=fun e=>by subst e;exact hg g1
      refine ⟨t6h g1,?_⟩
      have:=(t6u ((T.node (m : Nat)).kids.map fun k=>rk k.toNat) 0).2 (rk k) (List.mem_map.2 ⟨_,hk2,by simp⟩)
      simp only [e2,if_false,if_true]
      omega
    · have h3 : g m = true:=by unfold stepR at h2;simpa [e] using h2
      obtain ⟨g1,g2⟩:=hr m hm h3 hb k hk2
      have e2 : k ≠ i:=fun e=>by subst e;exact hg g1
      exact ⟨t6h g1,by simp [e,e2,g2]⟩
theorem RoI.round {T : Ty} (hk : KidsT T) {g : Nat → Bool} (h : RoI T g) : ∀ k,k ≤ T.len → RoI T (t2u T g k)
  | 0,_=>by unfold t2u;simpa using h
  | k + 1,hl=>by rw [t4x];exact (RoI.round hk h k (by omega)).step hk (by omega)
theorem RoI.it {T : Ty} (hk : KidsT T) : ∀ r,RoI T (itR T r)
  | 0=>RoI.start T
  | r + 1=>(RoI.it hk r).round hk _ (Nat.le_refl _)
theorem RoI.ctr {T : Ty} {g : Nat → Bool} (h : RoI T g) (hk : KidsT T) (ha : ∀ i,i < T.len → g i = true) : Ctr T:=by
  obtain ⟨rk,hr⟩:=h.rk
  refine ⟨rk,fun i hi hb k hk2=>?_⟩
  obtain ⟨m,rfl,hm⟩:=t3t (hk i hi hb k hk2)
  exact (hr i hi (ha i hi) hb m hk2).2
def dones (n : Nat) (g : Nat → Bool) : Nat:=(List.range n).countP g
theorem thr (n : Nat) (g : Nat → Bool) : dones n g ≤ n:=by have:=List.countP_le_length (p:=g) (l:=List.range n);simpa [dones] using this
theorem tdk {g h : Nat → Bool} : ∀ {n : Nat},(∀ i,i < n → g i = true → h i = true) → (∃ i,i < n ∧ g i = false ∧ h i = true) → dones n g < dones n h
  | 0,_,⟨i,hi,_⟩=>by omega
  | n + 1,hs,⟨i,hi,h1,h2⟩=>by
    have s : ∀ q : Nat → Bool,dones (n + 1) q = dones n q + if q n then 1 else 0:=fun q=>by
      simp [dones,List.range_succ,List.countP_append,List.countP_cons]
    rw [s,s]
    by_cases e : i = n
    · subst e
      have : dones i g ≤ dones i h:=List.countP_mono_left fun x hx=>hs x (by have:=List.mem_range.1 hx;omega)
      simp [h1,h2];omega
    · have:=tdk (n:=n) (fun x hx=>hs x (by omega)) ⟨i,by omega,h1,h2⟩
      have h3:=hs n (by omega)
      cases hg : g n
      · simp;omega
      · simp [h3 hg];omega
theorem tfl {T : Ty} (hk : KidsT T) (hc : Ctr T) {g : Nat → Bool} (hn : ∃ i,i < T.len ∧ g i = false) : dones T.len g < dones T.len (t2u T g T.len):=by
  obtain ⟨rk,hr⟩:=hc
  refine tdk (fun i _ h=>t5v h _) ?_
  have key : ∀ m i,rk i ≤ m → i < T.len → g i = false → ∃ j,j < T.len ∧ g j = false ∧ ∀ k ∈ (T.node (j : Nat)).kids,(T.node (j : Nat)).bool = true → g k.toNat = true:=by
    intro m
    induction m with
    | zero =>
      intro i hm hi hg
      refine ⟨i,hi,hg,fun k hk2 hb=>?_⟩
      have:=hr i hi hb k hk2
      omega
    | succ m ih =>
      intro i hm hi hg
      by_cases ha : ∀ k ∈ (T.node (i : Nat)).kids,(T.node (i : Nat)).bool = true → g k.toNat = true
      · exact ⟨i,hi,hg,ha⟩
      · obtain ⟨k,h1⟩:=Classical.not_forall.1 ha
        obtain ⟨hk2,h2⟩:=Classical.not_imp.1 h1
        obtain ⟨hb,h3⟩:=Classical.not_imp.1 h2
        obtain ⟨q,rfl,hq⟩:=t3t (hk i hi hb k hk2)
        have:=hr i hi hb _ hk2
        simp only [Int.toNat_natCast] at h3 this
        exact ih q (by omega) hq (by cases h : g q <;> simp_all)
  obtain ⟨i,hi,hg⟩:=hn
  obtain ⟨j,hj,h1,h2⟩:=key _ i (Nat.le_refl _) hi hg
  refine ⟨j,hj,h1,?_⟩
  have h3 : t2u T g (j + 1) j = true:=by
    rw [t4x]
    unfold stepR okR
    rw [if_pos rfl]
    cases hb : (T.node (j : Nat)).bool
    · simp
    · simp only [Bool.not_true,Bool.false_or,Bool.or_eq_true,List.all_eq_true]
      exact .inr fun k hk2=>t5v (h2 k hk2 hb) _
  have h4 : ∀ d,t2u T g (j + 1 + d) j = true:=by
    intro d
    induction d with
    | zero=>exact h3
    | succ d ih=>rw [← Nat.add_assoc,t4x];exact t6h ih
  have:=h4 (T.len - (j + 1))
  rwa [show j + 1 + (T.len - (j + 1)) = T.len by omega] at this
theorem tfm {T : Ty} (hk : KidsT T) : (∀ i,i < T.len → itR T T.len i = true) ↔ Ctr T:=by
  refine ⟨fun h=>(RoI.it hk _).ctr hk h,fun hc=>?_⟩
  have key : ∀ r,(∀ i,i < T.len → itR T r i = true) ∨ r ≤ dones T.len (itR T r):=by
    intro r
    induction r with
    | zero=>exact .inr (Nat.zero_le _)
    | succ r ih =>
      by_cases ha : ∀ i,i < T.len → itR T r i = true
      · exact .inl fun i hi=>t5v (ha i hi) _
      · obtain ⟨i,h1⟩:=Classical.not_forall.1 ha
        obtain ⟨hi,h2⟩:=Classical.not_imp.1 h1
        have h3:=tfl hk hc (g:=itR T r) ⟨i,hi,by cases h : itR T r i <;> simp_all⟩
        rcases ih with h | h
        · exact absurd h ha
        · exact .inr (by show r + 1 ≤ dones T.len (t2u T (itR T r) T.len);omega)
  rcases key T.len with h | h
  · exact h
  · intro i hi
    have h2:=thr T.len (itR T T.len)
    have h3 : dones T.len (itR T T.len) = (List.range T.len).length:=by rw [List.length_range];omega
    have:=List.countP_eq_length.1 h3 i (List.mem_range.2 hi)
    simpa using this
end Go.Proofs.YtjgldaaofdpcgaaGreat
namespace Go.Proofs.YtjgldaaofdpcgaaGreat
open Go.RowKit Go.Ident
set_option maxRecDepth 100000
theorem tc2 {V x : VV} (h : V.valid = true) (hx : x ∈ V.kids) : x.valid = true:=by
  rw [t5r,Bool.and_eq_true,Bool.and_eq_true,List.all_eq_true] at h;exact h.2.1 x hx
theorem tc3 {V : VV} {e : EE} (h : V.valid = true) (he : e ∈ V.ents) : (∀ x ∈ e.args,x.valid = true) ∧ (e.fails = false → e.res.valid = true):=by
  rw [t5r,Bool.and_eq_true,Bool.and_eq_true,List.all_eq_true,List.all_eq_true] at h
  have h2:=h.2.2 e he
  rw [t8i,Bool.and_eq_true,List.all_eq_true,Bool.or_eq_true] at h2
  exact ⟨h2.1,fun hf=>by rcases h2.2 with g | g <;> simp_all⟩
theorem tb4 {V : VV} (h : V.valid = true) : nodeV V = true:=by rw [t5r,Bool.and_eq_true] at h;exact h.1
theorem tc4 {V : VV} (h : V.valid = true) (hk : V.kind = 8) : V.keys.length = V.kids.length:=by
  have h1:=tb4 h
  unfold nodeV at h1
  simp [hk] at h1
  exact h1.2.1
theorem tc5 {V : VV} (h : V.valid = true) : ∀ k ∈ V.keys,k.kind = 0 ∨ k.kind = 1:=by
  intro k hkm
  have h1:=tb4 h
  unfold nodeV at h1
  by_cases hk : V.kind = 8
  · simp [hk] at h1
    have h2:=h1.2.2.2 k hkm
    unfold valK at h2
    split at h2
    · rename_i h0;exact .inl h0
    · split at h2
      · rename_i h0;exact .inr h0
      · cases h2
  · simp [hk] at h1
    have : V.keys = []:=h1.1.2.1.2
    rw [this] at hkm
    cases hkm
theorem tb5 {n : TN} (h : kindN n = true) : 1 ≤ n.kind ∧ n.kind ≤ 19:=by
  unfold kindN at h
  (repeat' split at h) <;> first | omega | (simp at h;omega)
structure NodeT (T : Ty) (n : TN) : Prop where
  plain : t1t n = true
  kind : kindN n = true
  edges : ∀ k ∈ t1u n,T.has k = true
theorem nodeT_iff {T : Ty} {n : TN} : nodeT T n = true ↔ NodeT T n:=by
  unfold nodeT
  rw [Bool.and_eq_true,Bool.and_eq_true,List.all_eq_true]
  exact ⟨fun ⟨⟨a,b⟩,c⟩=>⟨a,b,c⟩,fun ⟨a,b,c⟩=>⟨⟨a,b⟩,c⟩⟩
theorem NodeT.kids {T : Ty} {n : TN} (h : NodeT T n) : ∀ k ∈ n.kids,T.has k = true:=fun k hk=>h.edges k (by unfold t1u;simp [hk])
theorem NodeT.at {T : Ty} {n : TN} (h : NodeT T n) (hk : n.kind = 13) (k : KK) : T.has (atN n k) = true:=by
  unfold atN
  cases hf : n.fields.find? fun f=>decide (f.key = k) with
  | some f =>
    refine h.edges _ ?_
    have:=List.mem_of_find?_eq_some hf
    unfold t1u
    simp only [List.mem_append,List.mem_map]
    exact .inr (.inl ⟨f,this,rfl⟩)
  | none =>
    simp only
    split
    · exact h.edges _ (by unfold t1u;simp [hk])
    · exact h.edges _ (by unfold t1u;simp [hk])
theorem WfT.node {T : Ty} (h : WfT T) {i : Nat} (hi : i < T.nodes.length) : NodeT T (T.node (i : Nat)):=nodeT_iff.1 (h.nodes _ (by rw [T.node_at hi];exact List.getElem_mem hi))
theorem tiv (T : Ty) (hw : WfT T) : ∀ d (V : VV),V.ht ≤ d → V.valid = true → ∀ k,T.has k = true → HasC T V k:=by
  intro d
  induction d with
  | zero=>intro V h;have:=t4u V;omega
  | succ d ih =>
    intro V hd hv
    obtain ⟨rk,hr⟩:=hw.ctr
    have hsub : ∀ x ∈ V.kids,∀ k,T.has k = true → HasC T x k:=fun x hx k hk=>ih x (by have:=t3z hx;omega) (tc2 hv hx) k hk
    have hent : ∀ e ∈ V.ents,(∀ x ∈ e.args,∀ k,T.has k = true → HasC T x k) ∧ (e.fails = false → ∀ k,T.has k = true → HasC T e.res k):=fun e he=>by
      have h1:=t4t he
      obtain ⟨h2,h3⟩:=tc3 hv he
      exact ⟨fun x hx k hk=>ih x (by have:=t4a hx;omega) (h2 x hx) k hk,fun hf k hk=>ih e.res (by have:=t4b e;omega) (h3 hf) k hk⟩
    have key : ∀ m i,i < T.nodes.length → rk i < m → HasC T V (i : Nat):=by
      intro m
      induction m with
      | zero=>intro i _ h;omega
      | succ m ihm =>
        intro i hi hm
        have hN:=hw.node hi
        have hK:=hN.kind
        obtain ⟨k1,k2⟩:=tb5 hK
        have hsame : (T.node (i : Nat)).bool = true → ∀ x ∈ (T.node (i : Nat)).kids,HasC T V x:=fun hb x hx=>by
          obtain ⟨j,rfl,hj⟩:=t3t (hN.kids x hx)
          have:=hr i hi hb _ hx
          simp only [Int.toNat_natCast] at this
          exact ihm j hj (by omega)
        generalize hn : T.node (i : Nat) = n at *
        have e1 : n.kind = 10 ∨ n.kind = 12 → n.kids.length ≤ 1000:=fun h=>by unfold kindN at hK;rcases h with h | h <;> (simp [h] at hK;omega)
        have e2 : n.kind = 14 → 1 ≤ n.kids.length ∧ n.kids.length ≤ 1000:=fun h=>by unfold kindN at hK;simp [h] at hK;omega
        have e3 : n.kind = 18 → 0 < n.kids.length:=fun h=>by unfold kindN at hK;simp [h] at hK;omega
        refine thp T hw V i hi n hn.symm ?_
        unfold HasQ
        rcases (show (n.kind = 1 ∨ n.kind = 2) ∨ n.kind = 3 ∨ (n.kind = 4 ∨ n.kind = 6) ∨ (n.kind = 5 ∨ n.kind = 7 ∨ n.kind = 8 ∨ n.kind = 9 ∨ n.kind = 11 ∨ n.kind = 15) ∨ (n.kind = 10 ∨ n.kind = 12) ∨ n.kind = 13 ∨ n.kind = 14 ∨ (n.kind = 16 ∨ n.kind = 17) ∨ n.kind = 18 ∨ n.kind = 19 by omega) with h | h | h | h | h | h | h | h | h | h
        · exact .inl h
        · exact .inr (.inl h)
        · exact .inr (.inr (.inl h))
        · exact .inr (.inr (.inr (.inl h)))
        · exact .inr (.inr (.inr (.inr (.inl ⟨h,e1 h,fun x hx k hk=>hsub x hx k (hN.kids k hk)⟩))))
        · exact .inr (.inr (.inr (.inr (.inr (.inl ⟨h,tc4 hv,tc5 hv,fun j hj hj2=>hsub _ (List.getElem_mem hj2) _ (hN.at h _)⟩)))))
        · exact .inr (.inr (.inr (.inr (.inr (.inr (.inl ⟨h,(e2 h).1,(e2 h).2,fun e he=>⟨fun x hx k hk=>(hent e he).1 x hx k (hN.kids k hk),fun hf k hk=>(hent e he).2 hf k (hN.kids k hk)⟩⟩))))))
        · exact .inr (.inr (.inr (.inr (.inr (.inr (.inr (.inl ⟨h,hsame (by rcases h with h | h <;> simp [TN.bool,h])⟩)))))))
        · refine .inr (.inr (.inr (.inr (.inr (.inr (.inr (.inr (.inl ⟨h,e3 h,hsame (by simp [TN.bool,h]) _ ?_⟩))))))))
          have h1:=e3 h
          rw [List.getD_eq_getElem?_getD,List.getElem?_eq_getElem h1]
          exact List.getElem_mem h1
        · exact .inr (.inr (.inr (.inr (.inr (.inr (.inr (.inr (.inr h))))))))
    intro k hk
    obtain ⟨j,rfl,hj⟩:=t3t hk
    exact key (rk j + 1) j hj (by omega)
theorem tiw {T : Ty} (hw : WfT T) {V : VV} (hv : V.valid = true) {k : Int} (hk : T.has k = true) : HasC T V k:=tiv T hw V.ht V (Nat.le_refl _) hv k hk
end Go.Proofs.YtjgldaaofdpcgaaGreat
namespace Go.Proofs.YtjgldaaofdpcgaaGreat
open Go.RowKit
set_option maxRecDepth 100000
theorem ir127 (x y : Int) (w : World) : Calls Tryz.prog 127 #[.int .i64 x,.int .i64 y] w (IR (ordI x y) w):=(t6t x y w).mono fun _ _ h=>⟨h.1,by rw [h.2];exact Below.refl _ _⟩
theorem ir135 (x y : Int) (w : World) : Calls Tryz.prog 135 #[.int .i64 x,.int .i64 y] w (IR (ordI x y) w):=(tgc x y w).mono fun _ _ h=>⟨h.1,by rw [h.2];exact Below.refl _ _⟩
theorem ir122 (x y : ByteArray) (w : World) : Calls Tryz.prog 122 #[.string x,.string y] w (IR (ordS x y) w):=(tai x y w).mono fun _ _ h=>⟨h.1,by rw [h.2];exact Below.refl _ _⟩
theorem nz_a {a b : Int} (h : a ≠ 0) : nz a b = a:=by unfold nz;rw [if_neg h]
theorem nz_b {a b : Int} (h : a = 0) : nz a b = b:=by unfold nz;rw [if_pos h]
set_option maxHeartbeats 4000000 in
theorem t6d (la lb : List VV) (w : World) (u v : Value) (ha : KS w u la) (hb : KS w v lb) (hc : ∀ x ∈ la,∀ y ∈ lb,CmpC x y) : Calls Tryz.prog 129 #[u,v] w (IR (cmpL cmpV la lb) w):=by
  have H:=zH (tgl la lb w u v ha hb hc)
  obtain ⟨_,pa,ca,rfl,-⟩:=ha
  obtain ⟨_,pb,cb,rfl,-⟩:=hb
  clear hc
  generalize cmpL cmpV la lb = c at *
  go_enter Tryz.func129,Tryz.ntmps129
  go_wp2_with (go_at_call 134;refine H.out.mono ?_;rintro e w1 ⟨rfl,hb1⟩;have Hb1:=zH hb1;clear hb1)
  go_ret
  exact ⟨rfl,Hb1.out⟩
set_option maxHeartbeats 32000000 in
theorem tdl (a b : VV) (hcv : ∀ x ∈ a.kids,∀ y ∈ b.kids,CmpC x y) (hce : ∀ x ∈ a.ents,∀ y ∈ b.ents,CmpD x y) : CmpC a b:=by
  intro w u v hu hv
  have Hcv:=zH hcv;have Hce:=zH hce
  have Heq:=zH (t9p a b)
  obtain ⟨_,q1,q2,q3,q4,q5,q6,q7,q8,rfl,-,hka,hkya,hea,hsa⟩:=hu.ex
  obtain ⟨_,r1,r2,r3,r4,r5,r6,r7,r8,rfl,-,hkb,hkyb,heb,hsb⟩:=hv.ex
  have HVa:=zH hka;have HKa:=zH hkya;have HEa:=zH hea;have HSa:=zH hsa
  have HVb:=zH hkb;have HKb:=zH hkyb;have HEb:=zH heb;have HSb:=zH hsb
  clear hcv hce hu hv hka hkya hea hsa hkb hkyb heb hsb
  go_enter Tryz.func130,Tryz.ntmps130
  go_upto_region 1 with fail
  obtain ⟨w2,e9,hA,hB,hb⟩:=t1f w (.cells #[.int .i64 a.kind,.int .i64 a.num,.string a.text,.slice q1 a.kids.length q2,.slice q3 a.keys.length q4,.slice q5 a.ents.length q6,.slice q7 a.labels.length q8] 28) (.cells #[.int .i64 b.kind,.int .i64 b.num,.string b.text,.slice r1 b.kids.length r2,.slice r3 b.keys.length r4,.slice r5 b.ents.length r6,.slice r7 b.labels.length r8] 28)
  rw [e9]
  have hlA:=t0a hA
  have hlB:=t0a hB
  have HbA:=zH hA;have HbB:=zH hB;have Hb:=zH hb
  obtain ⟨⟨f0,f1,f2,f3⟩,f4,f5,f6⟩:=t0f hA
  obtain ⟨⟨g0,g1,g2,g3⟩,g4,g5,g6⟩:=t0f hB
  clear e9 hA hB hb
  go_upto_region 2 with (go_at_call 127;refine (ir127 a.kind b.kind w2).mono ?_;rintro e x0 ⟨rfl,q⟩;have Hc0:=zH (Hb.out.step q);have Hd0:=zH (q);clear q)
  by_cases z0 : ordI a.kind b.kind = 0
  rotate_left
  · have Heq2:=zH (show cmpV a b = ordI a.kind b.kind by rw [Heq.out,nz_a z0])
    have d1 : (ordI a.kind b.kind != 0) = true:=by simpa using z0
    have d2 : (ordI a.kind b.kind == 0) = false:=by simpa using z0
    clear z0
    generalize ordI a.kind b.kind = c at *
    go_wp2
    go_ret
    rw [Heq2.out]
    exact ⟨rfl,Hc0.out⟩
  have d0' : (ordI a.kind b.kind != 0) = false:=by simpa using z0
  have d0'' : (ordI a.kind b.kind == 0) = true:=by simpa using z0
  clear f0 f1 f2 f3 f4 f5 f6 g0 g1 g2 g3 g4 g5 g6
  obtain ⟨⟨f0,f1,f2,f3⟩,f4,f5,f6⟩:=t0f ((Hd0.out.block _ hlA).trans HbA.out)
  obtain ⟨⟨g0,g1,g2,g3⟩,g4,g5,g6⟩:=t0f ((Hd0.out.block _ hlB).trans HbB.out)
  go_upto_region 5 with (go_at_call 135;refine (ir135 a.num b.num x0).mono ?_;rintro e x1 ⟨rfl,q⟩;have Hc1:=zH (Hc0.out.step q);have Hd1:=zH (Hd0.out.step q);clear q)
  by_cases z1 : ordI a.num b.num = 0
  rotate_left
  · have Heq2:=zH (show cmpV a b = ordI a.num b.num by rw [Heq.out,nz_b z0,nz_a z1])
    have d1 : (ordI a.num b.num != 0) = true:=by simpa using z1
    have d2 : (ordI a.num b.num == 0) = false:=by simpa using z1
    clear z0 z1
    generalize ordI a.num b.num = c at *
    go_wp2
    go_ret
    rw [Heq2.out]
    exact ⟨rfl,Hc1.out⟩
  have d1' : (ordI a.num b.num != 0) = false:=by simpa using z1
  have d1'' : (ordI a.num b.num == 0) = true:=by simpa using z1
  clear f0 f1 f2 f3 f4 f5 f6 g0 g1 g2 g3 g4 g5 g6
  obtain ⟨⟨f0,f1,f2,f3⟩,f4,f5,f6⟩:=t0f ((Hd1.out.block _ hlA).trans HbA.out)
  obtain ⟨⟨g0,g1,g2,g3⟩,g4,g5,g6⟩:=t0f ((Hd1.out.block _ hlB).trans HbB.out)
  go_upto_region 8 with (go_at_call 122;refine (ir122 a.text b.text x1).mono ?_;rintro e x2 ⟨rfl,q⟩;have Hc2:=zH (Hc1.out.step q);have Hd2:=zH (Hd1.out.step q);clear q)
  by_cases z2 : ordS a.text b.text = 0
  rotate_left
  · have Heq2:=zH (show cmpV a b = ordS a.text b.text by rw [Heq.out,nz_b z0,nz_b z1,nz_a z2])
    have d1 : (ordS a.text b.text != 0) = true:=by simpa using z2
    have d2 : (ordS a.text b.text == 0) = false:=by simpa using z2
    clear z0 z1 z2
    generalize ordS a.text b.text = c at *
    go_wp2
    go_ret
    rw [Heq2.out]
    exact ⟨rfl,Hc2.out⟩
  have d2' : (ordS a.text b.text != 0) = false:=by simpa using z2
  have d2'' : (ordS a.text b.text == 0) = true:=by simpa using z2
  clear f0 f1 f2 f3 f4 f5 f6 g0 g1 g2 g3 g4 g5 g6
  obtain ⟨⟨f0,f1,f2,f3⟩,f4,f5,f6⟩:=t0f ((Hd2.out.block _ hlA).trans HbA.out)
  obtain ⟨⟨g0,g1,g2,g3⟩,g4,g5,g6⟩:=t0f ((Hd2.out.block _ hlB).trans HbB.out)
  go_upto_region 11 with (go_at_call 136;refine (tgm a.keys b.keys x2 _ _ (HKa.out.below Hc2.out) (HKb.out.below Hc2.out)).mono ?_;rintro e x3 ⟨rfl,q⟩;have Hc3:=zH (Hc2.out.step q);have Hd3:=zH (Hd2.out.step q);clear q)
  by_cases z3 : cmpL cmpK a.keys b.keys = 0
  rotate_left
  · have Heq2:=zH (show cmpV a b = cmpL cmpK a.keys b.keys by rw [Heq.out,nz_b z0,nz_b z1,nz_b z2,nz_a z3])
    have d1 : (cmpL cmpK a.keys b.keys != 0) = true:=by simpa using z3
    have d2 : (cmpL cmpK a.keys b.keys == 0) = false:=by simpa using z3
    clear z0 z1 z2 z3
    generalize cmpL cmpK a.keys b.keys = c at *
    go_wp2
    go_ret
    rw [Heq2.out]
    exact ⟨rfl,Hc3.out⟩
  have d3' : (cmpL cmpK a.keys b.keys != 0) = false:=by simpa using z3
  have d3'' : (cmpL cmpK a.keys b.keys == 0) = true:=by simpa using z3
  clear f0 f1 f2 f3 f4 f5 f6 g0 g1 g2 g3 g4 g5 g6
  obtain ⟨⟨f0,f1,f2,f3⟩,f4,f5,f6⟩:=t0f ((Hd3.out.block _ hlA).trans HbA.out)
  obtain ⟨⟨g0,g1,g2,g3⟩,g4,g5,g6⟩:=t0f ((Hd3.out.block _ hlB).trans HbB.out)
  go_upto_region 14 with (go_at_call 129;refine (t6d a.kids b.kids x3 _ _ (HVa.out.below Hc3.out) (HVb.out.below Hc3.out) Hcv.out).mono ?_;rintro e x4 ⟨rfl,q⟩;have Hc4:=zH (Hc3.out.step q);have Hd4:=zH (Hd3.out.step q);clear q)
  by_cases z4 : cmpL cmpV a.kids b.kids = 0
  rotate_left
  · have Heq2:=zH (show cmpV a b = cmpL cmpV a.kids b.kids by rw [Heq.out,nz_b z0,nz_b z1,nz_b z2,nz_b z3,nz_a z4])
    have d1 : (cmpL cmpV a.kids b.kids != 0) = true:=by simpa using z4
    have d2 : (cmpL cmpV a.kids b.kids == 0) = false:=by simpa using z4
    clear z0 z1 z2 z3 z4
    generalize cmpL cmpV a.kids b.kids = c at *
    go_wp2
    go_ret
    rw [Heq2.out]
    exact ⟨rfl,Hc4.out⟩
  have d4' : (cmpL cmpV a.kids b.kids != 0) = false:=by simpa using z4
  have d4'' : (cmpL cmpV a.kids b.kids == 0) = true:=by simpa using z4
  clear f0 f1 f2 f3 f4 f5 f6 g0 g1 g2 g3 g4 g5 g6
  obtain ⟨⟨f0,f1,f2,f3⟩,f4,f5,f6⟩:=t0f ((Hd4.out.block _ hlA).trans HbA.out)
  obtain ⟨⟨g0,g1,g2,g3⟩,g4,g5,g6⟩:=t0f ((Hd4.out.block _ hlB).trans HbB.out)
  go_upto_region 17 with (go_at_call 137;refine (tgn a.ents b.ents x4 _ _ (HEa.out.below Hc4.out) (HEb.out.below Hc4.out) Hce.out).mono ?_;rintro e x5 ⟨rfl,q⟩;have Hc5:=zH (Hc4.out.step q);have Hd5:=zH (Hd4.out.step q);clear q)
  by_cases z5 : cmpL cmpE a.ents b.ents = 0
  rotate_left
  · have Heq2:=zH (show cmpV a b = cmpL cmpE a.ents b.ents by rw [Heq.out,nz_b z0,nz_b z1,nz_b z2,nz_b z3,nz_b z4,nz_a z5])
    have d1 : (cmpL cmpE a.ents b.ents != 0) = true:=by simpa using z5
    have d2 : (cmpL cmpE a.ents b.ents == 0) = false:=by simpa using z5
    clear z0 z1 z2 z3 z4 z5
    generalize cmpL cmpE a.ents b.ents = c at *
    go_wp2
    go_ret
    rw [Heq2.out]
    exact ⟨rfl,Hc5.out⟩
  have d5' : (cmpL cmpE a.ents b.ents != 0) = false:=by simpa using z5
  have d5'' : (cmpL cmpE a.ents b.ents == 0) = true:=by simpa using z5
  clear f0 f1 f2 f3 f4 f5 f6 g0 g1 g2 g3 g4 g5 g6
  obtain ⟨⟨f0,f1,f2,f3⟩,f4,f5,f6⟩:=t0f ((Hd5.out.block _ hlA).trans HbA.out)
  obtain ⟨⟨g0,g1,g2,g3⟩,g4,g5,g6⟩:=t0f ((Hd5.out.block _ hlB).trans HbB.out)
  have Heq2:=zH (show cmpV a b = cmpL ordS a.labels b.labels by rw [Heq.out,nz_b z0,nz_b z1,nz_b z2,nz_b z3,nz_b z4,nz_b z5])
  clear z0 z1 z2 z3 z4 z5
  go_wp2_with (go_at_call 138;refine (tgo a.labels b.labels x5 _ _ (HSa.out.below Hc5.out) (HSb.out.below Hc5.out)).mono ?_;rintro e x6 ⟨rfl,q⟩;have Hc6:=zH (Hc5.out.step q);have Hd6:=zH (Hd5.out.step q);clear q)
  go_ret
  rw [Heq2.out]
  exact ⟨rfl,Hc6.out⟩
set_option maxHeartbeats 32000000 in
theorem t8s (a b : EE) (hcv : ∀ x ∈ a.args,∀ y ∈ b.args,CmpC x y) (hcr : CmpC a.res b.res) : CmpD a b:=by
  intro w d d' cs cs' hu hv
  have Hcv:=zH hcv;have Hcr:=zH hcr
  have Heq:=zH (t9q a b)
  obtain ⟨q9,qa,rs,rfl,haa,hra⟩:=hu
  obtain ⟨r9,ra,rs',rfl,hab,hrb⟩:=hv
  obtain ⟨q1,q2,q3,q4,q5,q6,q7,q8,rfl⟩:=hra.seven
  obtain ⟨r1,r2,r3,r4,r5,r6,r7,r8,rfl⟩:=hrb.seven
  have HVa:=zH (show KS w (.slice q9 a.args.length qa) a.args from ⟨d,q9,qa,rfl,haa⟩);have HVb:=zH (show KS w (.slice r9 b.args.length ra) b.args from ⟨d',r9,ra,rfl,hab⟩)
  have HRa:=zH hra;have HRb:=zH hrb
  clear hcv hcr haa hab hra hrb
  go_enter Tryz.func125,Tryz.ntmps125
  go_upto_region 1 with fail
  obtain ⟨w2,e9,hA,hB,hb⟩:=t1f w (.cells #[.slice q9 a.args.length qa,.bool a.fails,.int .i64 a.res.kind,.int .i64 a.res.num,.string a.res.text,.slice q1 a.res.kids.length q2,.slice q3 a.res.keys.length q4,.slice q5 a.res.ents.length q6,.slice q7 a.res.labels.length q8] 55) (.cells #[.slice r9 b.args.length ra,.bool b.fails,.int .i64 b.res.kind,.int .i64 b.res.num,.string b.res.text,.slice r1 b.res.kids.length r2,.slice r3 b.res.keys.length r4,.slice r5 b.res.ents.length r6,.slice r7 b.res.labels.length r8] 55)
  rw [e9]
  have hlA:=t0a hA
  have hlB:=t0a hB
  have HbA:=zH hA;have HbB:=zH hB;have Hb:=zH hb
  obtain ⟨⟨f0,f1,f2,f3⟩,⟨f4,f5,f6,f7⟩,f8⟩:=t1k hA
  obtain ⟨⟨g0,g1,g2,g3⟩,⟨g4,g5,g6,g7⟩,g8⟩:=t1k hB
  clear e9 hA hB hb
  go_upto_region 2 with (go_at_call 129;refine (t6d a.args b.args w2 _ _ (HVa.out.below Hb.out) (HVb.out.below Hb.out) Hcv.out).mono ?_;rintro e x0 ⟨rfl,q⟩;have Hc0:=zH (Hb.out.step q);have Hd0:=zH (q);clear q)
  by_cases z0 : cmpL cmpV a.args b.args = 0
  rotate_left
  · have Heq2:=zH (show cmpE a b = cmpL cmpV a.args b.args by rw [Heq.out,nz_a z0])
    have d1 : (cmpL cmpV a.args b.args != 0) = true:=by simpa using z0
    have d2 : (cmpL cmpV a.args b.args == 0) = false:=by simpa using z0
    clear z0
    generalize cmpL cmpV a.args b.args = c at *
    go_wp2
    go_ret
    rw [Heq2.out]
    exact ⟨rfl,Hc0.out⟩
  have d0' : (cmpL cmpV a.args b.args != 0) = false:=by simpa using z0
  have d0'' : (cmpL cmpV a.args b.args == 0) = true:=by simpa using z0
  clear f0 f1 f2 f3 f4 f5 f6 f7 f8 g0 g1 g2 g3 g4 g5 g6 g7 g8
  obtain ⟨⟨f0,f1,f2,f3⟩,⟨f4,f5,f6,f7⟩,f8⟩:=t1k ((Hd0.out.block _ hlA).trans HbA.out)
  obtain ⟨⟨g0,g1,g2,g3⟩,⟨g4,g5,g6,g7⟩,g8⟩:=t1k ((Hd0.out.block _ hlB).trans HbB.out)
  have Heq1:=zH (show cmpE a b = nz (if a.fails = b.fails then 0 else if a.fails = true then -1 else 1) (cmpV a.res b.res) by rw [Heq.out,nz_b z0])
  clear z0
  have HbA0:=zH ((Hd0.out.block _ hlA).trans HbA.out)
  cases hfa : a.fails <;> cases hfb : b.fails <;> rw [hfa] at f1 <;> rw [hfb] at g1
  · have Heq2:=zH (show cmpE a b = cmpV a.res b.res by rw [Heq1.out,hfa,hfb];exact nz_b rfl)
    clear hfa hfb
    go_wp2_with (go_at_call 130;refine (Hcr.out x0 _ _ ⟨d,_,rfl,HRa.out.below Hc0.out⟩ ⟨d',_,rfl,HRb.out.below Hc0.out⟩).mono ?_;rintro e x1 ⟨rfl,q⟩;have Hc1:=zH (Hc0.out.step q);clear q)
    go_ret
    rw [Heq2.out]
    exact ⟨rfl,Hc1.out⟩
  · have Heq2:=zH (show cmpE a b = 1 by rw [Heq1.out,hfa,hfb];exact nz_a (by decide))
    clear hfa hfb
    go_wp2
    go_ret
    rw [Heq2.out]
    exact ⟨rfl,Hc0.out⟩
  · have Heq2:=zH (show cmpE a b = -1 by rw [Heq1.out,hfa,hfb];exact nz_a (by decide))
    clear hfa hfb
    go_wp2
    go_ret
    rw [Heq2.out]
    exact ⟨rfl,Hc0.out⟩
  · have Heq2:=zH (show cmpE a b = cmpV a.res b.res by rw [Heq1.out,hfa,hfb];exact nz_b rfl)
    clear hfa hfb
    go_wp2_with (go_at_call 130;refine (Hcr.out x0 _ _ ⟨d,_,rfl,HRa.out.below Hc0.out⟩ ⟨d',_,rfl,HRb.out.below Hc0.out⟩).mono ?_;rintro e x1 ⟨rfl,q⟩;have Hc1:=zH (Hc0.out.step q);clear q)
    go_ret
    rw [Heq2.out]
    exact ⟨rfl,Hc1.out⟩
theorem teg : ∀ d (a : VV),a.ht ≤ d → ∀ b,CmpC a b:=by
  intro d
  induction d with
  | zero=>intro a h;have:=t4u a;omega
  | succ d ih =>
    intro a hd b
    exact tdl a b (fun x hx y _=>ih x (by have:=t3z hx;omega) y) fun x hx y _=>by
      have h1:=t4t hx
      exact t8s x y (fun z hz t _=>ih z (by have:=t4a hz;omega) t) (ih _ (by have:=t4b x;omega) _)
theorem t5w (a b : VV) : CmpC a b:=teg a.ht a (Nat.le_refl _) b
theorem t9g (a b : EE) : CmpD a b:=t8s a b (fun x _ y _=>t5w x y) (t5w _ _)
end Go.Proofs.YtjgldaaofdpcgaaGreat
