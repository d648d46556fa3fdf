/-
  Plain laws of names and quotes.
-/
namespace Go.Ident

def isLo (c : UInt8) : Bool := decide (97 ≤ c) && decide (c ≤ 122)
def isUp (c : UInt8) : Bool := decide (65 ≤ c) && decide (c ≤ 90)
def isDi (c : UInt8) : Bool := decide (48 ≤ c) && decide (c ≤ 57)
def aOther (c : UInt8) : Bool := isLo c || isDi c || decide (c = 95)
def vOther (c : UInt8) : Bool := isLo c || isUp c || isDi c || decide (c = 95)
def isNm (f g : UInt8 → Bool) : List UInt8 → Bool
  | [] => false
  | c :: r => decide (r.length ≤ 15) && (f c && r.all g)
def isAtm (l : List UInt8) : Bool := isNm isLo aOther l
def isVrb (l : List UInt8) : Bool := isNm isUp vOther l
def valK (k : Int) (l : List UInt8) : Bool := if k = 0 then isAtm l else if k = 1 then decide (l.length ≤ 64) else false

def hexD (n : UInt8) : UInt8 := if n < 10 then 48 + n else 87 + n
def q1 (c : UInt8) : List UInt8 :=
  if c = 34 ∨ c = 92 then [92, c] else if 32 ≤ c ∧ c ≤ 126 then [c] else [92, 120, hexD (c >>> 4), hexD (c &&& 15)]
def flat (l : List UInt8) : List UInt8 := l.flatMap q1
def quo (l : List UInt8) : List UInt8 := 34 :: (flat l ++ [34])
def nib (c : UInt8) : Option UInt8 := if 48 ≤ c ∧ c ≤ 57 then some (c - 48) else if 97 ≤ c ∧ c ≤ 102 then some (c - 87) else none
def nib2 (h l : UInt8) : Option UInt8 := match nib h, nib l with | some a, some b => some (16 * a + b) | _, _ => none

/-- The program's decoder over the body. -/
def dec : List UInt8 → Option (List UInt8)
  | [] => some []
  | c :: r => if c ≠ 92 then (dec r).map (c :: ·) else match r with
    | [] => none
    | d :: r2 => if d ≠ 120 then (dec r2).map (d :: ·) else match r2 with
      | [] => none
      | [_] => none
      | h :: l :: r3 => match nib2 h l with
        | none => none
        | some b => (dec r3).map (b :: ·)
/-- The reference's decoder over what lies behind the first byte. -/
def decR : List UInt8 → List UInt8
  | [] => []
  | [_] => []
  | c :: d :: r => if c ≠ 92 then c :: decR (d :: r) else match r with
    | h :: l :: z :: r3 => if d = 120 then (match nib2 h l with
        | some b => b :: decR (z :: r3)
        | none => d :: decR (h :: l :: z :: r3)) else d :: decR (h :: l :: z :: r3)
    | r => d :: decR r
def unq (s : List UInt8) : Option (List UInt8) := if quo (decR (s.drop 1)) = s then some (decR (s.drop 1)) else none

theorem dec_cons (c : UInt8) (r : List UInt8) : dec (c :: r) = if c ≠ 92 then (dec r).map (c :: ·) else match r with
    | [] => none
    | d :: r2 => if d ≠ 120 then (dec r2).map (d :: ·) else match r2 with
      | [] => none
      | [_] => none
      | h :: l :: r3 => match nib2 h l with
        | none => none
        | some b => (dec r3).map (b :: ·) := by rw [dec.eq_def]
theorem decR_cons (c d : UInt8) (r : List UInt8) : decR (c :: d :: r) = if c ≠ 92 then c :: decR (d :: r) else match r with
    | h :: l :: z :: r3 => if d = 120 then (match nib2 h l with
        | some b => b :: decR (z :: r3)
        | none => d :: decR (h :: l :: z :: r3)) else d :: decR (h :: l :: z :: r3)
    | r => d :: decR r := by rw [decR.eq_def]
theorem q1_cases (c : UInt8) : (c ≠ 120 ∧ q1 c = [92, c]) ∨ (c ≠ 92 ∧ q1 c = [c]) ∨ (∃ h l, q1 c = [92, 120, h, l] ∧ nib2 h l = some c) := by
  have key : ∀ n : Fin 256, let c := UInt8.ofNat n.val; (c ≠ 120 ∧ q1 c = [92, c]) ∨ (c ≠ 92 ∧ q1 c = [c]) ∨ (q1 c = [92, 120, hexD (c >>> 4), hexD (c &&& 15)] ∧ nib2 (hexD (c >>> 4)) (hexD (c &&& 15)) = some c) := by decide +kernel
  have := key ⟨c.toNat, c.toNat_lt⟩
  simp only [UInt8.ofNat_toNat] at this
  rcases this with h | h | h
  · exact .inl h
  · exact .inr (.inl h)
  · exact .inr (.inr ⟨_, _, h⟩)
theorem dec_flat (l : List UInt8) : dec (flat l) = some l := by
  induction l with
  | nil => rfl
  | cons c r ih =>
    have hf : flat (c :: r) = q1 c ++ flat r := rfl
    rw [hf]
    rcases q1_cases c with ⟨h, e⟩ | ⟨h, e⟩ | ⟨a, b, e, h⟩
    · rw [e]; simp [dec_cons, h, ih]
    · rw [e]; simp only [List.cons_append, List.nil_append]; rw [dec_cons, if_pos h, ih]; rfl
    · rw [e]; simp [dec_cons, h, ih]
theorem decR_flat (l : List UInt8) : decR (flat l ++ [34]) = l := by
  induction l with
  | nil => rfl
  | cons c r ih =>
    have hf : flat (c :: r) ++ [34] = q1 c ++ (flat r ++ [34]) := by show (q1 c ++ flat r) ++ [34] = _; simp
    rw [hf]
    have hne : flat r ++ [34] ≠ [] := by simp
    generalize flat r ++ [34] = X at *
    rcases q1_cases c with ⟨h, e⟩ | ⟨h, e⟩ | ⟨a, b, e, h⟩
    · rw [e]
      match X, hne with
      | [x], _ => simp only [List.cons_append, List.nil_append] at *; simp [decR_cons] at *; exact ih
      | [x, y], _ => simp [decR_cons] at *; exact ih
      | x :: y :: z :: r3, _ => simp only [List.cons_append, List.nil_append]; rw [decR_cons, if_neg (by simp)]; simp only [if_neg h]; rw [ih]
    · rw [e]
      match X, hne with
      | x :: r3, _ => simp only [List.cons_append, List.nil_append]; rw [decR_cons, if_pos h, ih]
    · rw [e]
      match X, hne with
      | x :: r3, _ => simp only [List.cons_append, List.nil_append]; rw [decR_cons, if_neg (by simp)]; simp only [if_true, h]; rw [ih]
theorem unq_quo (t : List UInt8) : unq (quo t) = some t := by
  unfold unq
  have : (quo t).drop 1 = flat t ++ [34] := rfl
  rw [this, decR_flat, if_pos rfl]
theorem unq_iff (s t : List UInt8) : unq s = some t ↔ s = quo t := by
  constructor
  · intro h
    unfold unq at h
    split at h
    · rename_i hq
      rw [Option.some.inj h] at hq
      exact hq.symm
    · cases h
  · rintro rfl; exact unq_quo t
theorem quo_inj {s t : List UInt8} (h : quo s = quo t) : s = t := by
  have := unq_quo s
  rw [h, unq_quo] at this
  exact (Option.some.inj this).symm
/-- The program's way. -/
theorem unq_some {body t : List UInt8} (hq : quo t = 34 :: (body ++ [34])) : unq (34 :: (body ++ [34])) = some t := by rw [← hq]; exact unq_quo t
theorem unq_other {body t : List UInt8} (h : dec body = some t) (hq : quo t ≠ 34 :: (body ++ [34])) : unq (34 :: (body ++ [34])) = none := by
  cases hu : unq (34 :: (body ++ [34])) with
  | none => rfl
  | some t' =>
    have := (unq_iff _ _).1 hu
    simp only [quo, List.cons.injEq, true_and] at this
    have hb : body = flat t' := List.append_cancel_right this
    subst hb
    rw [dec_flat] at h
    cases h
    exact absurd rfl hq
theorem unq_none {body : List UInt8} (h : dec body = none) : unq (34 :: (body ++ [34])) = none := by
  cases hu : unq (34 :: (body ++ [34])) with
  | none => rfl
  | some t' =>
    have := (unq_iff _ _).1 hu
    simp only [quo, List.cons.injEq, true_and] at this
    have hb : body = flat t' := List.append_cancel_right this
    subst hb
    rw [dec_flat] at h
    cases h
theorem unq_shape {s : List UInt8} (hs : ¬ ∃ body, s = 34 :: (body ++ [34])) : unq s = none := by
  cases hu : unq s with
  | none => rfl
  | some t' => exact absurd ⟨_, (unq_iff _ _).1 hu⟩ hs
/-- Steps of the program's decoder, at an index. -/
def decFrom (body : List UInt8) (i : Nat) (bs : List UInt8) : Option (List UInt8) := (dec (body.drop i)).map (bs ++ ·)
theorem decFrom_zero (body : List UInt8) : decFrom body 0 [] = dec body := by unfold decFrom; simp
theorem decFrom_end (body : List UInt8) (i : Nat) (bs : List UInt8) (h : body.length ≤ i) : decFrom body i bs = some bs := by
  unfold decFrom; rw [List.drop_eq_nil_of_le h]; simp [dec]
theorem map_snoc (o : Option (List UInt8)) (bs : List UInt8) (c : UInt8) : (o.map (c :: ·)).map (bs ++ ·) = o.map ((bs ++ [c]) ++ ·) := by
  cases o <;> simp
theorem decFrom_plain {body : List UInt8} {i : Nat} {bs : List UInt8} (h : i < body.length) (h1 : body[i] ≠ 92) : decFrom body i bs = decFrom body (i + 1) (bs ++ [body[i]]) := by
  unfold decFrom
  rw [List.drop_eq_getElem_cons h, dec_cons, if_pos h1, map_snoc]
theorem decFrom_end1 {body : List UInt8} {i : Nat} {bs : List UInt8} (h : i < body.length) (h1 : body[i] = 92) (h2 : body.length ≤ i + 1) : decFrom body i bs = none := by
  unfold decFrom
  rw [List.drop_eq_getElem_cons h, dec_cons, if_neg (by simp [h1]), List.drop_eq_nil_of_le h2]; rfl
theorem decFrom_byte {body : List UInt8} {i : Nat} {bs : List UInt8} (h : i < body.length) (h1 : body[i] = 92) (h2 : i + 1 < body.length) (h3 : body[i + 1] ≠ 120) :
    decFrom body i bs = decFrom body (i + 2) (bs ++ [body[i + 1]]) := by
  unfold decFrom
  rw [List.drop_eq_getElem_cons h, List.drop_eq_getElem_cons h2, dec_cons, if_neg (by simp [h1])]
  simp only [if_pos h3]
  rw [map_snoc]
theorem decFrom_cut {body : List UInt8} {i : Nat} {bs : List UInt8} (h : i < body.length) (h1 : body[i] = 92) (h2 : i + 1 < body.length) (h3 : body[i + 1] = 120) (h4 : body.length ≤ i + 3) :
    decFrom body i bs = none := by
  unfold decFrom
  rw [List.drop_eq_getElem_cons h, List.drop_eq_getElem_cons h2, dec_cons, if_neg (by simp [h1])]
  have hl : (body.drop (i + 1 + 1)).length ≤ 1 := by simp; omega
  generalize body.drop (i + 1 + 1) = r at *
  match r, hl with
  | [], _ => simp [h3]
  | [_], _ => simp [h3]
theorem decFrom_hex {body : List UInt8} {i : Nat} {bs : List UInt8} (h : i < body.length) (h1 : body[i] = 92) (h2 : i + 1 < body.length) (h3 : body[i + 1] = 120) (h4 : i + 3 < body.length) :
    decFrom body i bs = match nib2 body[i + 2] body[i + 3] with | none => none | some b => decFrom body (i + 4) (bs ++ [b]) := by
  unfold decFrom
  rw [List.drop_eq_getElem_cons h, List.drop_eq_getElem_cons h2, List.drop_eq_getElem_cons (show i + 1 + 1 < body.length by omega), List.drop_eq_getElem_cons (show i + 1 + 1 + 1 < body.length by omega), dec_cons, if_neg (by simp [h1])]
  simp only [h3]
  cases hn : nib2 body[i + 2] body[i + 3] with
  | none => simp
  | some b => simp only [ne_eq, not_true_eq_false, if_false, Option.map_map, List.append_assoc, List.cons_append, List.nil_append]; rfl
/-- Steps of the reference's decoder, at an index (of the whole string). -/
def decRFrom (s : List UInt8) (i : Nat) (bs : List UInt8) : List UInt8 := bs ++ decR (s.drop i)
theorem decRFrom_end {s : List UInt8} {i : Nat} {bs : List UInt8} (h : s.length ≤ i + 1) : decRFrom s i bs = bs := by
  unfold decRFrom
  have hl : (s.drop i).length ≤ 1 := by simp; omega
  generalize s.drop i = r at *
  match r, hl with
  | [], _ => simp [decR]
  | [_], _ => simp [decR]
theorem drop_two {s : List UInt8} {i : Nat} (h : i + 1 < s.length) : s.drop i = s[i] :: s[i + 1] :: s.drop (i + 2) := by
  rw [List.drop_eq_getElem_cons (show i < s.length by omega), List.drop_eq_getElem_cons h]
theorem decRFrom_plain {s : List UInt8} {i : Nat} {bs : List UInt8} (h : i + 1 < s.length) (h1 : s[i] ≠ 92) : decRFrom s i bs = decRFrom s (i + 1) (bs ++ [s[i]]) := by
  unfold decRFrom
  rw [drop_two h, decR_cons, if_pos h1, List.drop_eq_getElem_cons h]; simp
theorem decRFrom_hex {s : List UInt8} {i : Nat} {bs : List UInt8} {b : UInt8} (h : i + 4 < s.length) (h1 : s[i] = 92) (h2 : s[i + 1] = 120) (h3 : nib2 s[i + 2] s[i + 3] = some b) : decRFrom s i bs = decRFrom s (i + 4) (bs ++ [b]) := by
  unfold decRFrom
  rw [drop_two (show i + 1 < s.length by omega), decR_cons, if_neg (by simp [h1]), drop_two (show i + 2 + 1 < s.length by omega), List.drop_eq_getElem_cons (show i + 2 + 2 < s.length by omega)]
  simp [h2, h3]
theorem decRFrom_byte {s : List UInt8} {i : Nat} {bs : List UInt8} (h : i + 1 < s.length) (h1 : s[i] = 92) (h2 : ∀ h4 : i + 4 < s.length, s[i + 1] = 120 → nib2 s[i + 2] s[i + 3] = none) : decRFrom s i bs = decRFrom s (i + 2) (bs ++ [s[i + 1]]) := by
  unfold decRFrom
  rw [drop_two h, decR_cons, if_neg (by simp [h1])]
  by_cases h4 : i + 4 < s.length
  · rw [drop_two (show i + 2 + 1 < s.length by omega), List.drop_eq_getElem_cons (show i + 2 + 2 < s.length by omega)]
    by_cases h5 : s[i + 1] = 120
    · simp [h5, h2 h4 h5]
    · simp [h5]
  · have hl : (s.drop (i + 2)).length ≤ 2 := by simp; omega
    generalize s.drop (i + 2) = r at *
    match r, hl with
    | [], _ => simp
    | [_], _ => simp
    | [_, _], _ => simp
theorem flat_snoc (l : List UInt8) (c : UInt8) : flat (l ++ [c]) = flat l ++ q1 c := by simp [flat]
theorem flat_len (l : List UInt8) : (flat l).length ≤ 4 * l.length := by
  induction l with
  | nil => simp [flat]
  | cons c r ih =>
    have hf : flat (c :: r) = q1 c ++ flat r := rfl
    rw [hf]
    have : (q1 c).length ≤ 4 := by unfold q1; split <;> (try split) <;> simp
    simp; omega
theorem dec_len_aux (n : Nat) : ∀ b t, b.length ≤ n → dec b = some t → t.length ≤ b.length := by
  induction n with
  | zero => intro b t hb h; cases b with | nil => simp [dec] at h; subst h; simp | cons _ _ => simp at hb
  | succ n ih =>
    intro b t hb h
    match b with
    | [] => simp [dec] at h; subst h; simp
    | c :: r =>
      rw [dec_cons] at h
      split at h
      · obtain ⟨t', h', rfl⟩ := Option.map_eq_some_iff.1 h
        have := ih r t' (by simp at hb; omega) h'
        simp; omega
      · match r with
        | [] => simp at h
        | d :: r2 =>
          simp only at h
          split at h
          · obtain ⟨t', h', rfl⟩ := Option.map_eq_some_iff.1 h
            have := ih r2 t' (by simp at hb; omega) h'
            simp; omega
          · match r2 with
            | [] => simp at h
            | [_] => simp at h
            | a :: l :: r3 =>
              simp only at h
              split at h
              · cases h
              · obtain ⟨t', h', rfl⟩ := Option.map_eq_some_iff.1 h
                have := ih r3 t' (by simp at hb; omega) h'
                simp; omega

/-- FormatKey, ParseKey. -/
def fmtK (k : Int) (l : List UInt8) : List UInt8 := if valK k l then (if k = 0 then l else quo l) else []
def parK (s : List UInt8) : Option (Int × List UInt8) :=
  match s with
  | 34 :: _ => match unq s with
    | some t => if t.length ≤ 64 then some (1, t) else none
    | none => none
  | _ => if isAtm s then some (0, s) else none
theorem isAtm_head {c : UInt8} {r : List UInt8} (h : isAtm (c :: r) = true) : c ≠ 34 := by
  rintro rfl
  simp [isAtm, isNm, isLo] at h
theorem unq_head {s t : List UInt8} (h : unq s = some t) : ∃ r, s = 34 :: r := ⟨_, (unq_iff _ _).1 h⟩
/-- The reference's order of tests. -/
theorem parK_ref (s : List UInt8) : parK s = if isAtm s then some ((0 : Int), s) else match unq s with
    | some t => if t.length ≤ 64 then some (1, t) else none
    | none => none := by
  match s with
  | [] => rfl
  | c :: r =>
    by_cases hc : c = 34
    · subst hc
      have : isAtm (34 :: r) = false := by cases h : isAtm (34 :: r) with | false => rfl | true => exact absurd rfl (isAtm_head h)
      rw [this]
      simp [parK]
    · have hu : unq (c :: r) = none := by
        cases h : unq (c :: r) with
        | none => rfl
        | some t => obtain ⟨r', e⟩ := unq_head h; simp at e; exact absurd e.1 hc
      rw [hu]
      unfold parK
      split
      · rename_i h; simp at h; exact absurd h.1 hc
      · rfl
theorem valK_one {k : Int} {l : List UInt8} (h : valK k l = true) : (k = 0 ∧ isAtm l = true) ∨ (k = 1 ∧ l.length ≤ 64) := by
  unfold valK at h
  split at h
  · exact .inl ⟨by assumption, h⟩
  · split at h
    · exact .inr ⟨by assumption, by simpa using h⟩
    · cases h
/-- A valid key is parsed from its own notation. -/
theorem parK_fmt {k : Int} {l : List UInt8} (h : valK k l = true) : parK (fmtK k l) = some (k, l) := by
  unfold fmtK
  rw [if_pos h]
  rcases valK_one h with ⟨rfl, h1⟩ | ⟨rfl, h1⟩
  · rw [if_pos rfl, parK_ref, if_pos h1]
  · rw [if_neg (by decide)]
    show parK (34 :: (flat l ++ [34])) = _
    have : unq (34 :: (flat l ++ [34])) = some l := unq_quo l
    simp [parK, this, h1]
theorem fmt_parK {s : List UInt8} {k : Int} {t : List UInt8} (h : parK s = some (k, t)) : valK k t = true ∧ fmtK k t = s := by
  rw [parK_ref] at h
  split at h
  · rename_i ha
    simp only [Option.some.injEq, Prod.mk.injEq] at h
    obtain ⟨rfl, rfl⟩ := h
    have hv : valK 0 s = true := by simp [valK, ha]
    exact ⟨hv, by simp [fmtK, hv]⟩
  · split at h
    · rename_i t' hu
      split at h
      · rename_i hl
        simp only [Option.some.injEq, Prod.mk.injEq] at h
        obtain ⟨rfl, rfl⟩ := h
        have hv : valK 1 t' = true := by simp [valK, hl]
        exact ⟨hv, by simp [fmtK, hv, ((unq_iff _ _).1 hu)]⟩
      · cases h
    · cases h
end Go.Ident
