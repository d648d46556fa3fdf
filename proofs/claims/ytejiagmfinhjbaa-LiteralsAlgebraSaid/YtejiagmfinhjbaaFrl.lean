/-
  Plain laws of fresh names.
-/
import Derived.Test.YtejiagmfinhjbaaIdl
namespace Go.Ident

/-- following. -/
def foll (kind pos : Nat) (c : UInt8) : UInt8 × Bool :=
  if kind = 1 then (c + 1, decide (c < 255)) else
  if c = 122 then (0, false) else if 0 < pos ∧ c = 57 then (95, true) else if 0 < pos ∧ c = 95 then (97, true) else (c + 1, true)
def lowC (kind i : Nat) : UInt8 := if kind = 1 then 0 else if i = 0 then 97 else 48
def low (kind n : Nat) : List UInt8 := (List.range n).map (lowC kind)
/-- The loop of next: the bytes from index i on are done. -/
def nxtGo (kind : Nat) (l : List UInt8) : Nat → Option (List UInt8)
  | 0 => none
  | i + 1 => if (foll kind i (l.getD i 0)).2 then some (l.set i (foll kind i (l.getD i 0)).1) else nxtGo kind (l.set i (lowC kind i)) i
def nxt (kind : Nat) (l : List UInt8) : List UInt8 := (nxtGo kind l l.length).getD (low kind (l.length + 1))

def alphA : List UInt8 := [97, 98, 99, 100, 101, 102, 103, 104, 105, 106, 107, 108, 109, 110, 111, 112, 113, 114, 115, 116, 117, 118, 119, 120, 121, 122]
def alphB : List UInt8 := [48, 49, 50, 51, 52, 53, 54, 55, 56, 57, 95] ++ alphA
def alphS : List UInt8 := (List.range 256).map UInt8.ofNat
/-- The index of a byte in an alphabet (its length if it is not there). -/
def idx (l : List UInt8) (c : UInt8) : Nat := l.findIdx (· == c)
def rnxtGo (first other : List UInt8) (l : List UInt8) : Nat → Option (List UInt8)
  | 0 => none
  | i + 1 =>
    let al := if i = 0 then first else other
    if idx al (l.getD i 0) + 1 < al.length then some (l.set i (al.getD (idx al (l.getD i 0) + 1) 0)) else rnxtGo first other (l.set i (al.getD 0 0)) i
def rnxt (first other l : List UInt8) : List UInt8 := (rnxtGo first other l l.length).getD (first.getD 0 0 :: List.replicate l.length (other.getD 0 0))

def seqA (n : Nat) : List UInt8 := if n < 26 then [UInt8.ofNat (97 + n)] else [97, alphB.getD (n - 26) 0]
def seqS (n : Nat) : List UInt8 := if n = 0 then [] else [UInt8.ofNat (n - 1)]
def seqK (kind n : Nat) : List UInt8 := if kind = 1 then seqS n else seqA n

theorem nxt_seq {kind : Nat} (hk : kind ≤ 1) {n : Nat} (hn : n ≤ 60) : nxt kind (seqK kind n) = seqK kind (n + 1) := by
  have h : ∀ k : Fin 2, ∀ m : Fin 61, nxt k.val (seqK k.val m.val) = seqK k.val (m.val + 1) := by decide +kernel
  exact h ⟨kind, by omega⟩ ⟨n, by omega⟩
theorem rnxt_seqA {n : Nat} (hn : n ≤ 60) : rnxt alphA alphB (seqA n) = seqA (n + 1) := by
  have h : ∀ m : Fin 61, rnxt alphA alphB (seqA m.val) = seqA (m.val + 1) := by decide +kernel
  exact h ⟨n, by omega⟩
theorem rnxt_seqS {n : Nat} (hn : n ≤ 60) : rnxt alphS alphS (seqS n) = seqS (n + 1) := by
  have h : ∀ m : Fin 61, rnxt alphS alphS (seqS m.val) = seqS (m.val + 1) := by decide +kernel
  exact h ⟨n, by omega⟩
theorem seqK_inj {kind : Nat} (hk : kind ≤ 1) {n m : Nat} (hn : n ≤ 60) (hm : m ≤ 60) (h : seqK kind n = seqK kind m) : n = m := by
  have h0 : ∀ k : Fin 2, ∀ a : Fin 61, ∀ b : Fin 61, seqK k.val a.val = seqK k.val b.val → a = b := by decide +kernel
  have := h0 ⟨kind, by omega⟩ ⟨n, by omega⟩ ⟨m, by omega⟩ h
  simpa using this
theorem seqK_len {kind : Nat} (hk : kind ≤ 1) {n : Nat} (hn : n ≤ 61) : (seqK kind n).length ≤ 2 := by
  have h0 : ∀ k : Fin 2, ∀ a : Fin 62, (seqK k.val a.val).length ≤ 2 := by decide +kernel
  exact h0 ⟨kind, by omega⟩ ⟨n, by omega⟩
theorem seqA_atm {n : Nat} (hn : n ≤ 60) : isAtm (seqA n) = true := by
  have h0 : ∀ a : Fin 61, isAtm (seqA a.val) = true := by decide +kernel
  exact h0 ⟨n, by omega⟩

theorem nodup_le {α : Type} [DecidableEq α] : ∀ (l m : List α), l.Nodup → (∀ x ∈ l, x ∈ m) → l.length ≤ m.length := by
  intro l
  induction l with
  | nil => intro m _ _; simp
  | cons a r ih =>
    intro m hn hs
    rw [List.nodup_cons] at hn
    have ha : a ∈ m := hs a (by simp)
    have := ih (m.erase a) hn.2 (fun x hx => (List.mem_erase_of_ne (by rintro rfl; exact hn.1 hx)).2 (hs x (by simp [hx])))
    rw [List.length_erase_of_mem ha] at this
    have : 0 < m.length := List.length_pos_of_mem ha
    simp; omega
/-- The first unused one of the sequence. -/
theorem fresh_ex {kind : Nat} (hk : kind ≤ 1) (used : List (List UInt8)) (hu : used.length ≤ 60) : ∃ n, n ≤ 60 ∧ seqK kind n ∉ used ∧ ∀ m, m < n → seqK kind m ∈ used := by
  have hall : ¬ ∀ n, n ≤ 60 → seqK kind n ∈ used := by
    intro h
    have h1 : ((List.range 61).map (seqK kind)).Nodup := by
      have h0 : ∀ k : Fin 2, ((List.range 61).map (seqK k.val)).Nodup := by decide +kernel
      exact h0 ⟨kind, by omega⟩
    have := nodup_le _ used h1 (fun x hx => by
      obtain ⟨n, hn, rfl⟩ := List.mem_map.1 hx
      exact h n (by have := List.mem_range.1 hn; omega))
    simp at this; omega
  have hex : ∃ n, n ≤ 60 ∧ seqK kind n ∉ used := by
    apply Classical.byContradiction
    intro hc
    exact hall fun n hn => Classical.byContradiction fun h => hc ⟨n, hn, h⟩
  have : ∀ N, (∃ n, n ≤ N ∧ seqK kind n ∉ used) → ∃ n, n ≤ N ∧ seqK kind n ∉ used ∧ ∀ m, m < n → seqK kind m ∈ used := by
    intro N
    induction N with
    | zero => rintro ⟨n, hn, h⟩; exact ⟨n, hn, h, fun m hm => by omega⟩
    | succ N ih =>
      rintro ⟨n, hn, h⟩
      by_cases h2 : ∃ n, n ≤ N ∧ seqK kind n ∉ used
      · obtain ⟨n, h3, h4⟩ := ih h2; exact ⟨n, by omega, h4⟩
      · refine ⟨n, hn, h, fun m hm => Classical.byContradiction fun hc => h2 ⟨m, by omega, hc⟩⟩
  exact this 60 hex
def freN (kind : Nat) (used : List (List UInt8)) : Nat := ((List.range 61).find? fun n => !used.contains (seqK kind n)).getD 0
theorem freN_spec {kind : Nat} (hk : kind ≤ 1) {used : List (List UInt8)} (hu : used.length ≤ 60) : freN kind used ≤ 60 ∧ seqK kind (freN kind used) ∉ used ∧ ∀ m, m < freN kind used → seqK kind m ∈ used := by
  obtain ⟨n, hn, h1, h2⟩ := fresh_ex hk used hu
  have hf : (List.range 61).find? (fun n => !used.contains (seqK kind n)) = some n := by
    rw [List.find?_range_eq_some]
    refine ⟨by simpa using h1, by simp; omega, fun j hj => by simpa using h2 j hj⟩
  have : freN kind used = n := by unfold freN; rw [hf]; rfl
  rw [this]; exact ⟨hn, h1, h2⟩
def fre (kind : Nat) (used : List (List UInt8)) : List UInt8 := seqK kind (freN kind used)

theorem one_lt {c d : UInt8} (h : [c] < [d]) : c < d := by
  rcases List.cons_lt_cons_iff.1 h with h | ⟨_, h⟩
  · exact h
  · exact absurd h (List.not_lt_nil _)
/-- An atom that comes before a string of the sequence is one of the sequence. -/
theorem before_seq {s : List UInt8} {n : Nat} (hn : n ≤ 60) (hs : isAtm s = true) (hb : s.length < (seqA n).length ∨ s.length = (seqA n).length ∧ s < seqA n) : ∃ m, m < n ∧ s = seqA m := by
  have hlen : (seqA n).length ≤ 2 := seqK_len (kind := 0) (by omega) (by omega)
  match s, hs with
  | [c], hs =>
    have h0 : ∀ a : Fin 61, ∀ c : Fin 256, isAtm [UInt8.ofNat c.val] = true → (1 < (seqA a.val).length ∨ 1 = (seqA a.val).length ∧ UInt8.ofNat c.val < (seqA a.val).getD 0 0) → c.val - 97 < a.val ∧ [UInt8.ofNat c.val] = seqA (c.val - 97) := by decide +kernel
    have hc := h0 ⟨n, by omega⟩ ⟨c.toNat, c.toNat_lt⟩
    simp only [UInt8.ofNat_toNat] at hc
    refine ⟨_, hc hs ?_⟩
    rcases hb with h | ⟨h, h2⟩
    · exact .inl h
    · refine .inr ⟨h, ?_⟩
      match hq : seqA n, h with
      | [d], _ =>
        rw [hq] at h2
        exact one_lt h2
  | [c, d], hs =>
    rcases hb with h | ⟨h, h2⟩
    · simp at h; omega
    · have h26 : ¬ n < 26 := by intro hc; simp [seqA, hc] at h
      have hq : seqA n = [97, alphB.getD (n - 26) 0] := by simp [seqA, h26]
      rw [hq] at h2
      have hc : 97 ≤ c ∧ aOther d = true := by
        simp [isAtm, isNm, isLo] at hs
        exact ⟨hs.1.1, hs.2⟩
      rw [List.cons_lt_cons_iff] at h2
      rcases h2 with h2 | ⟨rfl, h2⟩
      · exact absurd h2 (by have := hc.1; exact UInt8.not_lt.2 this)
      · have h2' : d < alphB.getD (n - 26) 0 := one_lt h2
        have h0 : ∀ a : Fin 35, ∀ d : Fin 256, aOther (UInt8.ofNat d.val) = true → UInt8.ofNat d.val < alphB.getD a.val 0 → idx alphB (UInt8.ofNat d.val) < a.val ∧ alphB.getD (idx alphB (UInt8.ofNat d.val)) 0 = UInt8.ofNat d.val := by decide +kernel
        have hd := h0 ⟨n - 26, by omega⟩ ⟨d.toNat, d.toNat_lt⟩
        simp only [UInt8.ofNat_toNat] at hd
        obtain ⟨hd1, hd2⟩ := hd hc.2 h2'
        refine ⟨26 + idx alphB d, by omega, ?_⟩
        unfold seqA
        rw [if_neg (by omega), show 26 + idx alphB d - 26 = idx alphB d by omega, hd2]
  | c :: d :: e :: r, _ =>
    rcases hb with h | ⟨h, _⟩ <;> simp at h <;> omega
end Go.Ident
