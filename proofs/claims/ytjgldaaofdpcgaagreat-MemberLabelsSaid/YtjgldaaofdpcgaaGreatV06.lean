/- Walks and plain facts for the laws of membership, for all values and types that the heap holds (texts V1). -/
import Derived.Test.YtjgldaaofdpcgaaGreatV03
import Derived.Test.YtjgldaaofdpcgaaGreatV05
set_option linter.unusedVariables false
set_option linter.unusedSimpArgs false
namespace Go.Proofs.YtjgldaaofdpcgaaGreat
open Go.Ident

structure FF where
  key : KK
  node : Int
  opt : Bool
structure TN where
  kind : Int
  lo : Int
  hi : Int
  text : ByteArray
  kids : List Int
  fields : List FF
  rest0 : Int
  rest1 : Int
structure Ty where
  nodes : List TN
  root : Int
def zeroN : TN:=⟨0,0,0,t0t,[],[],0,0⟩
def Ty.len (T : Ty) : Nat:=T.nodes.length
def Ty.node (T : Ty) (k : Int) : TN:=T.nodes.getD k.toNat zeroN
def Ty.has (T : Ty) (k : Int) : Bool:=decide (0 ≤ k) && decide (k < (T.len : Int))
def TN.bool (n : TN) : Bool:=decide (n.kind = 16) || decide (n.kind = 17) || decide (n.kind = 18)
theorem Ty.node_at {T : Ty} {i : Nat} (h : i < T.nodes.length) : T.node (i : Int) = T.nodes[i]:=by simp [Ty.node,h]
theorem has_iff {T : Ty} {k : Int} : T.has k = true ↔ 0 ≤ k ∧ k < (T.len : Int):=by simp [Ty.has]
def kidsK (k : Int) : Bool:=decide (k = 10) || decide (k = 12) || decide (k = 14) || decide (k = 16) || decide (k = 17) || decide (k = 18)
def textK (k : Int) : Bool:=decide (k = 4) || decide (k = 6) || decide (k = 19)
def t1w (n : TN) : Bool :=
  (decide (n.kind = 3) || (decide (n.lo = 0) && decide (n.hi = 0))) && (textK n.kind || decide (n.text.size = 0)) && (kidsK n.kind || n.kids.isEmpty) &&
  (decide (n.kind = 13) || (n.fields.isEmpty && (decide (n.rest0 = 0) && decide (n.rest1 = 0))))
def t2r (l : List FF) : Bool:=ascL cmpK (l.map FF.key) && l.all fun f=>valK f.key.kind f.key.text.data.toList
def kindN (n : TN) : Bool :=
  if n.kind = 3 then decide (n.lo ≤ n.hi) else if n.kind = 4 then decide (n.text.size ≤ 64) else if n.kind = 6 then isAtm n.text.data.toList else if n.kind = 19 then isVrb n.text.data.toList
  else if n.kind = 10 then decide (n.kids.length ≤ 4) else if n.kind = 12 then decide (n.kids.length = 2) else if n.kind = 13 then t2r n.fields
  else if n.kind = 14 then decide (1 ≤ n.kids.length) && decide (n.kids.length ≤ 5) else if n.kind = 16 ∨ n.kind = 17 then decide (1 ≤ n.kids.length) else if n.kind = 18 then decide (n.kids.length = 1)
  else decide (1 ≤ n.kind) && decide (n.kind ≤ 15)
def t1t (n : TN) : List Int:=n.kids ++ (n.fields.map FF.node ++ if n.kind = 13 then [n.rest0,n.rest1] else [])
def nodeT (T : Ty) (n : TN) : Bool:=t1w n && kindN n && (t1t n).all T.has
def RkT (T : Ty) (rk : Nat → Nat) : Prop:=∀ i,i < T.len → (T.node (i : Nat)).bool = true → ∀ k ∈ (T.node (i : Nat)).kids,rk k.toNat < rk i
def Ctr (T : Ty) : Prop:=∃ rk,RkT T rk
structure WfT (T : Ty) : Prop where
  root : T.has T.root = true
  nodes : ∀ n ∈ T.nodes,nodeT T n = true
  ctr : Ctr T
def atN (n : TN) (k : KK) : Int :=
  match n.fields.find? fun f=>decide (f.key = k) with
  | some f=>f.node
  | none=>if k.kind = 0 then n.rest0 else n.rest1
def all2 (sub : VV → Int → Bool) (l : List VV) (ks : List Int) : Bool:=decide (l.length = ks.length) && (l.zip ks).all fun p=>sub p.1 p.2
def entA (sub : VV → Int → Bool) (ks : List Int) (e : EE) : Bool:=!all2 sub e.args (ks.take (ks.length - 1)) || (!e.fails && sub e.res (ks.getD (ks.length - 1) 0))
def mapA (sub : VV → Int → Bool) (v : VV) (n : TN) : Bool :=
  (n.fields.all fun f=>f.opt || v.keys.any fun k=>decide (k = f.key)) && (v.keys.zip v.kids).all fun p=>sub p.2 (atN n p.1)
def funA (sub : VV → Int → Bool) (v : VV) (n : TN) : Bool:=decide (v.num = (n.kids.length : Int) - 1) && v.ents.all (entA sub n.kids)
def t6g (k : Int) : Int:=if k = 5 then 2 else if k = 7 then 3 else if k = 8 then 4 else if k = 9 then 5 else if k = 11 then 6 else 9
def memS (sub : VV → Int → Bool) (v : VV) (same : Int → Bool) (n : TN) : Bool :=
  if n.kind = 2 then true else if n.kind = 3 then decide (v.kind = 1) && (decide (n.lo ≤ v.num) && decide (v.num ≤ n.hi))
  else if n.kind = 4 then decide (v.kind = 2) && decide (v.text = n.text) else if n.kind = 6 then decide (v.kind = 3) && decide (v.text = n.text)
  else if n.kind = 5 ∨ n.kind = 7 ∨ n.kind = 8 ∨ n.kind = 9 ∨ n.kind = 11 ∨ n.kind = 15 then decide (v.kind = t6g n.kind)
  else if n.kind = 10 then decide (v.kind = 6) && all2 sub v.kids n.kids else if n.kind = 12 then decide (v.kind = 7) && all2 sub v.kids n.kids
  else if n.kind = 13 then decide (v.kind = 8) && mapA sub v n else if n.kind = 14 then decide (v.kind = 9) && funA sub v n
  else if n.kind = 16 then n.kids.any same else if n.kind = 17 then n.kids.all same else if n.kind = 18 then !same (n.kids.getD 0 0)
  else if n.kind = 19 then v.labels.any fun s=>decide (s = n.text) else false
def memB (T : Ty) (sub : VV → Int → Bool) (v : VV) : Nat → Int → Bool
  | 0,_=>false
  | f + 1,k=>memS sub v (memB T sub v f) (T.node k)
def memN (T : Ty) (F : Nat) : Nat → VV → Int → Bool
  | 0,_,_=>false
  | d + 1,v,k=>memB T (memN T F d) v F k
theorem t6p (l : List Nat) : ∀ b,b ≤ l.foldl max b ∧ ∀ x ∈ l,x ≤ l.foldl max b:=by
  induction l with
  | nil=>intro b;simp
  | cons y r ih =>
    intro b
    have:=ih (max b y)
    refine ⟨by simp only [List.foldl_cons];omega,fun x hx=>?_⟩
    rcases List.mem_cons.1 hx with rfl | hx
    · simp only [List.foldl_cons];omega
    · exact this.2 x hx
open Classical in
noncomputable def fuelT (T : Ty) : Nat:=if h : Ctr T then ((List.range T.len).map h.choose).foldl max 0 + 1 else 0
noncomputable def mem (T : Ty) (v : VV) (k : Int) : Bool:=memN T (fuelT T) v.ht v k
theorem fuelT_gt {T : Ty} (h : Ctr T) : ∃ rk,RkT T rk ∧ ∀ i,i < T.len → rk i < fuelT T:=by
  refine ⟨h.choose,h.choose_spec,fun i hi=>?_⟩
  unfold fuelT
  rw [dif_pos h]
  have:=(t6p ((List.range T.len).map h.choose) 0).2 (h.choose i) (List.mem_map.2 ⟨i,List.mem_range.2 hi,rfl⟩)
  omega
theorem tb2 {s t : VV → Int → Bool} {l : List VV} {ks : List Int} (h : ∀ x ∈ l,∀ k,s x k = t x k) : all2 s l ks = all2 t l ks:=by
  unfold all2
  congr 1
  rw [Bool.eq_iff_iff,List.all_eq_true,List.all_eq_true]
  refine ⟨fun g p hp=>?_,fun g p hp=>?_⟩
  · rw [← h p.1 (List.of_mem_zip hp).1];exact g p hp
  · rw [h p.1 (List.of_mem_zip hp).1];exact g p hp
theorem tfl {s t : VV → Int → Bool} {ks : List Int} {e : EE} (h1 : ∀ x ∈ e.args,∀ k,s x k = t x k) (h2 : ∀ k,s e.res k = t e.res k) : entA s ks e = entA t ks e:=by
  unfold entA;rw [tb2 h1,h2]
theorem t6b {s t : VV → Int → Bool} {v : VV} {a b : Int → Bool} {n : TN} (h : ∀ x,x.ht < v.ht → ∀ k,s x k = t x k) (h1 : n.bool = true → ∀ k ∈ n.kids,a k = b k) (h0 : n.kind = 18 → 0 < n.kids.length) : memS s v a n = memS t v b n:=by
  have e1 : all2 s v.kids n.kids = all2 t v.kids n.kids:=tb2 fun x hx=>h x (t3d hx)
  have e2 : mapA s v n = mapA t v n:=by
    unfold mapA
    congr 1
    rw [Bool.eq_iff_iff,List.all_eq_true,List.all_eq_true]
    refine ⟨fun g p hp=>?_,fun g p hp=>?_⟩
    · rw [← h p.2 (t3d (List.of_mem_zip hp).2)];exact g p hp
    · rw [h p.2 (t3d (List.of_mem_zip hp).2)];exact g p hp
  have e3 : funA s v n = funA t v n:=by
    unfold funA
    congr 1
    have key : ∀ e ∈ v.ents,entA s n.kids e = entA t n.kids e:=fun e he =>
      tfl (fun x hx=>h x (Nat.lt_of_le_of_lt (t3k hx) (t3u he))) (h _ (Nat.lt_of_le_of_lt (t3l e) (t3u he)))
    rw [Bool.eq_iff_iff,List.all_eq_true,List.all_eq_true]
    exact ⟨fun g p hp=>by rw [← key p hp];exact g p hp,fun g p hp=>by rw [key p hp];exact g p hp⟩
  have e4 : n.kind = 16 → n.kids.any a = n.kids.any b:=fun hk=>by
    have:=h1 (by simp [TN.bool,hk])
    rw [Bool.eq_iff_iff,List.any_eq_true,List.any_eq_true]
    exact ⟨fun ⟨x,hx,g⟩=>⟨x,hx,by rw [← this x hx];exact g⟩,fun ⟨x,hx,g⟩=>⟨x,hx,by rw [this x hx];exact g⟩⟩
  have e5 : n.kind = 17 → n.kids.all a = n.kids.all b:=fun hk=>by
    have:=h1 (by simp [TN.bool,hk])
    rw [Bool.eq_iff_iff,List.all_eq_true,List.all_eq_true]
    exact ⟨fun g x hx=>by rw [← this x hx];exact g x hx,fun g x hx=>by rw [this x hx];exact g x hx⟩
  have e6 : n.kind = 18 → a (n.kids.getD 0 0) = b (n.kids.getD 0 0):=fun hk=>by
    have hl:=h0 hk
    refine h1 (by simp [TN.bool,hk]) _ ?_
    rw [List.getD_eq_getElem?_getD,List.getElem?_eq_getElem hl]
    exact List.getElem_mem hl
  unfold memS
  rw [e1,e2,e3]
  by_cases c16 : n.kind = 16
  · simp [c16,e4 c16]
  by_cases c17 : n.kind = 17
  · simp [c17,e5 c17]
  by_cases c18 : n.kind = 18
  · have:=e6 c18
    simp [c18]
    simpa using this
  simp only [c16,c17,c18,if_false]
structure WfM (T : Ty) : Prop where
  one : ∀ i,i < T.len → (T.node (i : Nat)).kind = 18 → 0 < (T.node (i : Nat)).kids.length
  ctr : Ctr T
theorem Ty.node_cases (T : Ty) (k : Int) : (T.node k = zeroN) ∨ (k.toNat < T.len ∧ T.node k = T.node (k.toNat : Nat)):=by
  by_cases h : k.toNat < T.len
  · exact .inr ⟨h,rfl⟩
  · refine .inl ?_
    have : T.nodes[k.toNat]? = none:=by rw [List.getElem?_eq_none_iff];unfold Ty.len at h;omega
    simp [Ty.node,this]
theorem t3p (s : VV → Int → Bool) (v : VV) (a : Int → Bool) : memS s v a zeroN = false:=by simp [memS,zeroN]
theorem td7 {T : Ty} (H : WfM T) {s t : VV → Int → Bool} {v : VV} (h : ∀ x,x.ht < v.ht → ∀ k,s x k = t x k) : ∀ f k,memB T s v f k = memB T t v f k:=by
  intro f
  induction f with
  | zero=>intro k;rfl
  | succ f ih =>
    intro k
    show memS s v (memB T s v f) (T.node k) = memS t v (memB T t v f) (T.node k)
    rcases T.node_cases k with e | ⟨hi,e⟩
    · rw [e,t3p,t3p]
    · rw [e];exact t6b h (fun _ k _=>ih k) (H.one _ hi)
theorem tgi {T : Ty} (H : WfM T) {rk : Nat → Nat} (hr : RkT T rk) {s : VV → Int → Bool} {v : VV} : ∀ f g k,(k.toNat < T.len → rk k.toNat < f ∧ rk k.toNat < g) → 0 < f → 0 < g → memB T s v f k = memB T s v g k:=by
  intro f
  induction f with
  | zero=>intro g k _ h;omega
  | succ f ih =>
    intro g k hk _ hg
    obtain ⟨g,rfl⟩ : ∃ g',g = g' + 1:=⟨g - 1,by omega⟩
    show memS s v (memB T s v f) (T.node k) = memS s v (memB T s v g) (T.node k)
    rcases T.node_cases k with e | ⟨hi,e⟩
    · rw [e,t3p,t3p]
    · rw [e]
      obtain ⟨h1,h2⟩:=hk hi
      refine t6b (fun _ _ _=>rfl) (fun hb x hx=>?_) (H.one _ hi)
      have:=hr _ hi hb x hx
      exact ih g x (fun _=>⟨by omega,by omega⟩) (by omega) (by omega)
theorem te9 {T : Ty} (H : WfM T) (F : Nat) : ∀ d e v k,v.ht ≤ d → v.ht ≤ e → memN T F d v k = memN T F e v k:=by
  intro d
  induction d with
  | zero=>intro e v k h;have:=t3m v;omega
  | succ d ih =>
    intro e v k h1 h2
    obtain ⟨e,rfl⟩ : ∃ e',e = e' + 1:=⟨e - 1,by have:=t3m v;omega⟩
    exact td7 H (fun x hx k=>ih e x k (by omega) (by omega)) F k
theorem tgj {T : Ty} (h : Ctr T) : 0 < fuelT T:=by unfold fuelT;rw [dif_pos h];omega
theorem tb3 {T : Ty} (H : WfM T) (v : VV) (k : Int) : mem T v k = memS (mem T) v (mem T v) (T.node k):=by
  obtain ⟨rk,hr,hlt⟩:=fuelT_gt H.ctr
  have hp:=t3m v
  have hF:=tgj H.ctr
  have key : ∀ k,mem T v k = memB T (mem T) v (fuelT T) k:=fun k=>by
    unfold mem
    obtain ⟨d,hd⟩ : ∃ d,v.ht = d + 1:=⟨v.ht - 1,by omega⟩
    rw [hd]
    exact td7 H (fun x hx k=>te9 H _ _ _ _ _ (by omega) (Nat.le_refl _)) _ _
  rw [key k]
  obtain ⟨F,hF2⟩ : ∃ F,fuelT T = F + 1:=⟨fuelT T - 1,by omega⟩
  have hk2 : memB T (mem T) v (F + 1) k = memS (mem T) v (memB T (mem T) v F) (T.node k):=rfl
  rw [hF2,hk2]
  rcases T.node_cases k with e | ⟨hi,e⟩
  · rw [e,t3p,t3p]
  · rw [e]
    refine t6b (fun _ _ _=>rfl) (fun hb x hx=>?_) (H.one _ hi)
    rw [key x]
    have h1:=hr _ hi hb x hx
    have h2:=hlt _ hi
    exact tgi H hr _ _ _ (fun h=>⟨by omega,hlt _ h⟩) (by omega) hF
theorem WfT.m {T : Ty} (h : WfT T) : WfM T:=by
  refine ⟨fun i hi hk=>?_,h.ctr⟩
  have h1:=h.nodes (T.node (i : Nat)) (by rw [T.node_at hi];exact List.getElem_mem hi)
  unfold nodeT kindN at h1
  simp [hk] at h1
  omega
end Go.Proofs.YtjgldaaofdpcgaaGreat
