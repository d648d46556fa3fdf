/-
  Plain: the current records of a store's map, and the bytes that Compact makes of them.
-/
import Derived.Test.YtmflngpgmmgohaaTq
import Derived.Sort.KeysCollected
namespace Go.Proofs.Ytmflngpgmmgohaa
open Go.RowKit Go.Sort Go.Maps

/-- The map's keys, ascending. -/
def KS (D : MD) : List (List UInt8) := (strKeys D).mergeSort leB
def litB : MD → ByteArray
  | .lit (.string l) => ⟨l.toArray⟩
  | _ => ⟨#[]⟩
def dataOf (D : MD) (k : ByteArray) : ByteArray := litB (getD D k)
def recOf (D : MD) (k : List UInt8) : Rec := (⟨k.toArray⟩, dataOf D ⟨k.toArray⟩)
def comp (D : MD) : List Rec := (KS D).map (recOf D)
theorem comp_length (D : MD) : (comp D).length = (KS D).length := by simp [comp]

theorem dataOf_eq {D : MD} {k v : ByteArray} (h : getD D k = .lit (.string v.data.toList)) : v = dataOf D k := by
  unfold dataOf; rw [h]; simp [litB]

/-- The map's keys are strings, each once. -/
def Tid (D : MD) : Prop := ∃ es, D = .map es ∧ es.Pairwise (fun p q => p.1 ≠ q.1) ∧ ∀ p ∈ es, ∃ x, p.1 = .string x ∧ x.length ≤ maxLen
theorem ownsS_tid {w : World} {b n : Nat} {D : MD} (h : ownsS w b n D) : Tid D := by
  obtain ⟨es, hD, hpw, _⟩ := World.ownsMap.entries h keyed9
  obtain ⟨es', hD', hko⟩ := World.ownsMap.keysOf h
  obtain rfl : es = es' := by rw [hD] at hD'; simpa using hD'
  subst hD
  exact ⟨_, rfl, hpw, fun p hp => by obtain ⟨v, hv⟩ := hko p hp; obtain ⟨x, _, hx, hl⟩ := Maps.keyOf_str (by kernel_rfl) hv; exact ⟨x, hx, hl⟩⟩
theorem Tid.nodup {D : MD} (h : Tid D) : (KS D).Nodup := by
  obtain ⟨es, rfl, hp, hk⟩ := h
  refine (List.Perm.nodup_iff (List.mergeSort_perm _ _)).2 ?_
  show (es.map fun p => strOf p.1).Nodup
  refine List.pairwise_map.2 (hp.imp_of_mem fun {p q} hp' hq' hne e => hne ?_)
  obtain ⟨a, ha, _⟩ := hk p hp'
  obtain ⟨b, hb, _⟩ := hk q hq'
  rw [ha, hb] at e ⊢
  exact congrArg _ e
theorem Tid.mem {D : MD} (h : Tid D) (x : List UInt8) : x ∈ KS D ↔ Maps.has D (.string x) = true := by
  obtain ⟨es, rfl, hp, hk⟩ := h
  rw [KS, (List.mergeSort_perm _ _).mem_iff, has_eq, List.any_eq_true]
  show x ∈ es.map (fun p => strOf p.1) ↔ _
  rw [List.mem_map]
  constructor
  · rintro ⟨p, hp', rfl⟩
    obtain ⟨a, ha, _⟩ := hk p hp'
    exact ⟨p, hp', by rw [ha]; simp [Lit.sameKey, strOf]⟩
  · rintro ⟨p, hp', hs⟩
    obtain ⟨a, ha, _⟩ := hk p hp'
    rw [ha] at hs
    exact ⟨p, hp', by rw [ha]; simpa [Lit.sameKey, strOf] using hs⟩
theorem Tid.length {D : MD} (h : Tid D) : (KS D).length = Maps.size D := by
  obtain ⟨es, rfl, hp, hk⟩ := h
  unfold KS
  rw [List.length_mergeSort]
  simp [strKeys, size_eq]
theorem Tid.long {D : MD} (h : Tid D) {x : List UInt8} (hx : x ∈ KS D) : x.length ≤ maxLen := by
  obtain ⟨es, rfl, hp, hk⟩ := h
  rw [KS, (List.mergeSort_perm _ _).mem_iff] at hx
  obtain ⟨p, hp', rfl⟩ := List.mem_map.1 hx
  obtain ⟨a, ha, hl⟩ := hk p hp'
  rw [ha]; exact hl
theorem Tid.asc {D : MD} (_h : Tid D) : (KS D).Pairwise (· ≤ ·) := by
  have tr : ∀ a b c : List UInt8, leB a b = true → leB b c = true → leB a c = true := fun a b c h1 h2 => by simp only [leB, decide_eq_true_eq] at *; exact List.le_trans h1 h2
  have to : ∀ a b : List UInt8, (leB a b || leB b a) = true := fun a b => by simp only [leB, Bool.or_eq_true, decide_eq_true_eq]; exact List.le_total a b
  exact (List.pairwise_mergeSort tr to (strKeys D)).imp (fun h => by simpa [leB] using h)

/-- The current record of a key. -/
def cur (L : List Rec) (k : ByteArray) : ByteArray := L.foldl (fun d r => if r.1 = k then r.2 else d) ⟨#[]⟩
theorem cur_snoc (L : List Rec) (r : Rec) (k : ByteArray) : cur (L ++ [r]) k = if r.1 = k then r.2 else cur L k := by simp [cur]
/-- The map has the current records. -/
structure Cur (D : MD) (L : List Rec) : Prop where
  isMap : IsMap D
  has : ∀ k, Maps.has D (sk k) = decide (¬ cur L k = ⟨#[]⟩)
  get : ∀ k, getD D k = .lit (.string (cur L k).data.toList)
theorem Cur.nil : Cur (.map []) [] := ⟨isMap_empty, fun k => by simp [cur, Maps.has], fun k => rfl⟩
theorem sk_inj {a b : ByteArray} (h : sk a = sk b) : a = b := by
  unfold sk at h
  simp only [Lit.string.injEq] at h
  apply ByteArray.ext; exact Array.toList_inj.1 h
theorem sk_key (k : ByteArray) : WideAt.IsKeyLit (sk k) := trivial
theorem Cur.set {D : MD} {L : List Rec} (h : Cur D L) (k d : ByteArray) : Cur (setD D k d) (L ++ [(k, d)]) := by
  unfold setD
  by_cases hd : d = ⟨#[]⟩
  · rw [if_pos hd]
    refine ⟨h.isMap.del _, fun x => ?_, fun x => ?_⟩
    · rw [cur_snoc]
      by_cases hx : k = x
      · subst hx; simp [has_del_same, hd]
      · rw [has_del_other (fun e => hx (sk_inj e).symm), h.has, if_neg hx]
    · rw [cur_snoc]
      by_cases hx : k = x
      · subst hx; simp [getD, atKey_del_same, hd]
      · show (D.del (sk k)).atKey (sk x) _ = _
        rw [atKey_del_other (fun e => hx (sk_inj e).symm), if_neg hx]; exact h.get x
  · rw [if_neg hd]
    refine ⟨h.isMap.put _ _, fun x => ?_, fun x => ?_⟩
    · rw [cur_snoc]
      by_cases hx : k = x
      · subst hx; simp [has_put_same h.isMap (sk_key k), hd]
      · rw [has_put_other (fun e => hx (sk_inj e).symm), h.has, if_neg hx]
    · rw [cur_snoc]
      by_cases hx : k = x
      · subst hx; simp [getD, atKey_put_same h.isMap (sk_key k)]
      · show (D.put (sk k) _).atKey (sk x) _ = _
        rw [atKey_put_other (fun e => hx (sk_inj e).symm), if_neg hx]; exact h.get x
theorem Cur.data {D : MD} {L : List Rec} (h : Cur D L) (k : ByteArray) : dataOf D k = cur L k := (dataOf_eq (h.get k)).symm
theorem openD_cur (L : List Rec) : Cur (openD L) L := by
  have key : ∀ (M : List Rec) (D : MD) (A : List Rec), Cur D A → Cur (M.foldl (fun D r => setD D r.1 r.2) D) (A ++ M) := by
    intro M
    induction M with
    | nil => intro D A h; simpa using h
    | cons r M ih =>
      intro D A h
      have := ih _ _ (h.set r.1 r.2)
      simpa using this
  have h := key L _ [] Cur.nil
  rw [List.nil_append] at h
  exact h
/-- Whose data there is, that one stands in the log. -/
theorem cur_mem {L : List Rec} {k : ByteArray} (h : ¬ cur L k = ⟨#[]⟩) : (k, cur L k) ∈ L := by
  have key : ∀ (M : List Rec) (d : ByteArray), M.foldl (fun d r => if r.1 = k then r.2 else d) d = d ∨ (k, M.foldl (fun d r => if r.1 = k then r.2 else d) d) ∈ M := by
    intro M
    induction M with
    | nil => intro d; exact .inl rfl
    | cons r M ih =>
      intro d
      rw [List.foldl_cons]
      by_cases hr : r.1 = k
      · rw [if_pos hr]
        rcases ih r.2 with h | h
        · right; rw [h, ← hr]; simp
        · right; simp [h]
      · rw [if_neg hr]
        rcases ih d with h | h
        · exact .inl h
        · right; simp [h]
  rcases key L ⟨#[]⟩ with h2 | h2
  · exact absurd h2 h
  · exact h2
theorem Cur.small {D : MD} {L : List Rec} (h : Cur D L) (hT : Tid D) (hs : SmallC L) : SmallC (comp D) := by
  intro r hr
  obtain ⟨k, hk, rfl⟩ := List.mem_map.1 hr
  have h1 := (hT.mem k).1 hk
  have h2 := h.has ⟨k.toArray⟩
  rw [show sk ⟨k.toArray⟩ = .string k by simp [sk]] at h2
  rw [h1] at h2
  have h3 : ¬ cur L ⟨k.toArray⟩ = ⟨#[]⟩ := by simpa using h2
  have := hs _ (cur_mem h3)
  unfold recOf
  rw [h.data]
  exact this
theorem comp_read {D : MD} (hs : SmallC (comp D)) : readV (framesB (comp D)) = (comp D, ⟨#[]⟩) := by
  have := readV_frames (P := ⟨#[]⟩) hs.small recV_empty
  rwa [append_nil] at this

/-! ### The disk -/
def compC (Dk : DM) (T : ByteArray) : Int := if Dk.truncC 0 = 0 then (if (Dk.truncD 0).appendC T = 0 then ((Dk.truncD 0).appendD T).syncC else (Dk.truncD 0).appendC T) else Dk.truncC 0
def compDk (Dk : DM) (T : ByteArray) : DM := if Dk.truncC 0 = 0 then (if (Dk.truncD 0).appendC T = 0 then ((Dk.truncD 0).appendD T).syncD else (Dk.truncD 0).appendD T) else Dk.truncD 0
theorem DM.Ok.truncOk {D : DM} (h : D.Ok) (h0 : D.truncC 0 = 0) : (D.truncD 0).Ok := by
  unfold DM.truncC at h0
  unfold DM.truncD
  split at h0
  · exact absurd h0 (by decide)
  · split at h0
    · exact absurd h0 (by decide)
    · split at h0
      · exact absurd h0 (by decide)
      · rename_i h1 h2 h3
        rw [if_neg h1, if_neg h2, if_neg h3]
        have h4 := h.struck (by simpa [DM.strikes] using h3)
        exact ⟨h4.cap0, h4.cap1, by have := h4.cap0; simpa using this, by simp, h4.left0, h4.left1, h4.armed, h4.keep0, h4.keep1⟩
end Go.Proofs.Ytmflngpgmmgohaa
