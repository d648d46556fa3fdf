/-
  Walks: the document's reader of texts.
-/
import Derived.Test.YtmflngpgmmgohaaTb
import Derived.Test.YtmflngpgmmgohaaTc
namespace Go.Proofs.Ytmflngpgmmgohaa
open Go.RowKit

def nR (S : ByteArray) (b : Nat) (o : Option (Nat × Nat)) (r : Ending) (w w' : World) : Prop :=
  match o with
  | some (n, p) => r = .returned (.int .i64 n) ∧ Upd b (inObj S p 0) w w'
  | none => r = .returned (.int .i64 0) ∧ ∃ (p : Nat) (e : Int), ¬ e = 0 ∧ Upd b (inObj S p e) w w'
def tR (S : ByteArray) (b : Nat) (o : Option (Nat × Nat)) (r : Ending) (w w' : World) : Prop :=
  match o with
  | some (q, n) => r = .returned (.string (S.extract q (q + n))) ∧ Upd b (inObj S (q + n) 0) w w'
  | none => r = .returned (.string ⟨#[]⟩) ∧ ∃ (p : Nat) (e : Int), ¬ e = 0 ∧ Upd b (inObj S p e) w w'

theorem refV_lt {S : ByteArray} {p z q : Nat} (h : refV S p = some (z, q)) (hp : p ≤ S.size) : q ≤ S.size := by
  have hr := ref_len hp 8 0 0 (by omega)
  unfold refV at h
  rw [show p + 0 = p from rfl, show (8 : Nat) + 2 = 10 from rfl, h] at hr
  exact hr.2.1

set_option maxRecDepth 100000 in
set_option maxHeartbeats 8000000 in
theorem len_bad (b : Nat) (S : ByteArray) (p : Nat) (e : Int) (w : World) (hb : w.heap[b]? = some (inObj S p e)) (h : ¬ e = 0) :
    Calls Try.prog 73 #[.pointer (some ⟨b, 0, none⟩)] w fun r w' => r = .returned (.int .i64 0) ∧ Upd b (inObj S p e) w w' := by
  have h1 := int_bad b S p e w hb h
  have hd : (e != 0) = true := by simpa using h
  go_enter Try.func73, Try.ntmps73
  go_wp2_with (first
    | (with_reducible refine Lex.wp_region_lex (by kernel_rfl) (by decide +kernel) ?_)
    | (with_reducible refine Lex.fin_on (by kernel_rfl) ?_)
    | (go_at_call 82; refine h1.mono ?_; rintro r w1 ⟨rfl, hU1⟩; obtain ⟨d0, d1, d2, fz⟩ := cells3 hU1.blk))
  go_ret
  exact ⟨rfl, hU1⟩

set_option maxRecDepth 100000 in
set_option maxHeartbeats 8000000 in
theorem len_ok (b : Nat) (S : ByteArray) (p : Nat) (w : World) (hb : w.heap[b]? = some (inObj S p 0)) (hS : S.size ≤ 1048576) :
    Calls Try.prog 73 #[.pointer (some ⟨b, 0, none⟩)] w fun r w' => nR S b (lenRef S p) r w w' := by
  have h1 := int_ok b S p w hb hS
  rcases h : refV S p with _ | ⟨z, q⟩
  · have e : lenRef S p = none := by unfold lenRef; rw [h]
    rw [e]; rw [h] at h1; simp only [intR] at h1
    clear h e
    go_enter Try.func73, Try.ntmps73
    go_wp2_with (first
      | (with_reducible refine Lex.wp_region_lex (by kernel_rfl) (by decide +kernel) ?_)
      | (with_reducible refine Lex.fin_on (by kernel_rfl) ?_)
      | (go_at_call 82; refine h1.mono ?_; rintro r w1 ⟨rfl, q, e, he, hU1⟩; obtain ⟨d0, d1, d2, fz⟩ := cells3 hU1.blk; have hd : (e != 0) = true := by simpa using he))
    go_ret
    exact ⟨rfl, q, e, he, hU1⟩
  · rw [h] at h1; simp only [intR] at h1
    by_cases hz : z % 2 = 0
    · have e : lenRef S p = some (z / 2, q) := by unfold lenRef; rw [h]; exact if_pos hz
      have e2 : unzig z = ((z / 2 : Nat) : Int) := by unfold unzig; rw [if_neg (by omega)]
      rw [e]; rw [e2] at h1
      generalize z / 2 = n at *
      clear h e e2 hz
      go_enter Try.func73, Try.ntmps73
      go_wp2_with (first
        | (with_reducible refine Lex.wp_region_lex (by kernel_rfl) (by decide +kernel) ?_)
        | (with_reducible refine Lex.fin_on (by kernel_rfl) ?_)
        | (go_at_call 82; refine h1.mono ?_; rintro r w1 ⟨rfl, hU1⟩; obtain ⟨d0, d1, d2, fz⟩ := cells3 hU1.blk))
      go_ret
      exact ⟨rfl, hU1⟩
    · have e : lenRef S p = none := by unfold lenRef; rw [h]; exact if_neg hz
      have e2 : unzig z < 0 := by unfold unzig; rw [if_pos (by omega)]; omega
      rw [e]
      generalize unzig z = n at *
      have hF := fun w1 h => fail_any b S q 0 5 w1 h
      rw [if_pos rfl] at hF
      clear h e hz
      go_enter Try.func73, Try.ntmps73
      go_wp2_with (first
        | (with_reducible refine Lex.wp_region_lex (by kernel_rfl) (by decide +kernel) ?_)
        | (with_reducible refine Lex.fin_on (by kernel_rfl) ?_)
        | (go_at_call 82; refine h1.mono ?_; rintro r w1 ⟨rfl, hU1⟩; obtain ⟨d0, d1, d2, fz⟩ := cells3 hU1.blk)
        | (go_at_call 74; refine (hF _ hU1.blk).mono ?_; rintro r w2 ⟨rfl, hU2⟩; obtain ⟨e0, e1, e2, fz2⟩ := cells3 hU2.blk))
      go_ret
      exact ⟨rfl, q, 5, by decide, hU1.trans hU2⟩

set_option maxRecDepth 100000 in
set_option maxHeartbeats 8000000 in
theorem rtext_bad (b : Nat) (S : ByteArray) (p : Nat) (e : Int) (w : World) (hb : w.heap[b]? = some (inObj S p e)) (h : ¬ e = 0) :
    Calls Try.prog 60 #[.pointer (some ⟨b, 0, none⟩)] w fun r w' => r = .returned (.string ⟨#[]⟩) ∧ Upd b (inObj S p e) w w' := by
  have h1 := len_bad b S p e w hb h
  have hd : (e != 0) = true := by simpa using h
  have hd2 : (e == 0) = false := by simpa using h
  go_enter Try.func60, Try.ntmps60
  go_wp2_with (first
    | (with_reducible refine Lex.wp_region_lex (by kernel_rfl) (by decide +kernel) ?_)
    | (with_reducible refine Lex.fin_on (by kernel_rfl) ?_)
    | (go_at_call 73; refine h1.mono ?_; rintro r w1 ⟨rfl, hU1⟩; obtain ⟨d0, d1, d2, fz⟩ := cells3 hU1.blk))
  go_ret
  exact ⟨rfl, hU1.drew⟩

set_option maxRecDepth 100000 in
set_option maxHeartbeats 8000000 in
theorem rtext_ok (b : Nat) (S : ByteArray) (p : Nat) (w : World) (hb : w.heap[b]? = some (inObj S p 0)) (hS : S.size ≤ 1048576) (hp : p ≤ S.size) :
    Calls Try.prog 60 #[.pointer (some ⟨b, 0, none⟩)] w fun r w' => tR S b (textRef S p) r w w' := by
  have h1 := len_ok b S p w hb hS
  rcases h : lenRef S p with _ | ⟨n, q⟩
  · have e : textRef S p = none := by unfold textRef; rw [h]
    rw [e]; rw [h] at h1; simp only [nR] at h1
    clear h e
    go_enter Try.func60, Try.ntmps60
    go_wp2_with (first
      | (with_reducible refine Lex.wp_region_lex (by kernel_rfl) (by decide +kernel) ?_)
      | (with_reducible refine Lex.fin_on (by kernel_rfl) ?_)
      | (go_at_call 73; refine h1.mono ?_; rintro r w1 ⟨rfl, q, e, he, hU1⟩; obtain ⟨d0, d1, d2, fz⟩ := cells3 hU1.blk; have hd : (e != 0) = true := (by simpa using he); have hd2 : (e == 0) = false := (by simpa using he)))
    go_ret
    exact ⟨rfl, q, e, he, hU1.drew⟩
  · rw [h] at h1; simp only [nR] at h1
    have hq : q ≤ S.size := by
      unfold lenRef at h
      split at h
      · rename_i z p' hv
        split at h
        · simp only [Option.some.injEq, Prod.mk.injEq] at h
          rw [← h.2]; exact refV_lt hv hp
        · exact absurd h (by simp)
      · exact absurd h (by simp)
    by_cases hn : S.size - q < n
    · have e : textRef S p = none := by unfold textRef; rw [h]; exact if_pos hn
      have hF := fun w1 h => fail_any b S q 0 26 w1 h
      rw [if_pos rfl] at hF
      rw [e]
      clear h e
      go_enter Try.func60, Try.ntmps60
      go_wp2_with (first
        | (with_reducible refine Lex.wp_region_lex (by kernel_rfl) (by decide +kernel) ?_)
        | (with_reducible refine Lex.fin_on (by kernel_rfl) ?_)
        | (go_at_call 73; refine h1.mono ?_; rintro r w1 ⟨rfl, hU1⟩; obtain ⟨d0, d1, d2, fz⟩ := cells3 hU1.blk)
        | (go_at_call 74; refine (hF _ hU1.drew.blk).mono ?_; rintro r w2 ⟨rfl, hU2⟩; obtain ⟨e0, e1, e2, fz2⟩ := cells3 hU2.blk))
      go_ret
      exact ⟨rfl, q, 26, by decide, hU1.drew.trans hU2⟩
    · have e : textRef S p = some (q, n) := by unfold textRef; rw [h]; exact if_neg hn
      rw [e]
      clear h e
      go_enter Try.func60, Try.ntmps60
      go_wp2_with (first
        | (with_reducible refine Lex.wp_region_lex (by kernel_rfl) (by decide +kernel) ?_)
        | (with_reducible refine Lex.fin_on (by kernel_rfl) ?_)
        | (go_at_call 73; refine h1.mono ?_; rintro r w1 ⟨rfl, hU1⟩; obtain ⟨d0, d1, d2, fz⟩ := cells3 hU1.blk))
      have hV := Upd.cast (Upd.set (i := 1) (v := .int .i64 ((q : Int) + n)) hU1.drew) (o' := inObj S (q + n) 0) (by simp [inObj])
      go_ret
      exact ⟨rfl, hV.drew⟩

set_option maxRecDepth 100000 in
set_option maxHeartbeats 8000000 in
theorem end_any (b : Nat) (S : ByteArray) (p : Nat) (e : Int) (w : World) (hb : w.heap[b]? = some (inObj S p e)) (_hS : S.size ≤ 1048576) :
    Calls Try.prog 61 #[.pointer (some ⟨b, 0, none⟩)] w fun r w' => r = .returned (.tuple #[]) ∧ Upd b (inObj S p (if p < S.size ∧ e = 0 then 5 else e)) w w' := by
  obtain ⟨c0, c1, c2, fz⟩ := cells3 hb
  have hU := Upd.refl hb
  have hF := fun w1 h => fail_any b S p e 5 w1 h
  by_cases hp : p < S.size
  · have e1 : (if p < S.size ∧ e = 0 then (5 : Int) else e) = if e = 0 then 5 else e := by simp [hp]
    rw [e1]
    generalize (if e = 0 then (5 : Int) else e) = e' at *
    clear e1
    go_enter Try.func61, Try.ntmps61
    go_wp2_with (first
      | (with_reducible refine Lex.wp_region_lex (by kernel_rfl) (by decide +kernel) ?_)
      | (with_reducible refine Lex.fin_on (by kernel_rfl) ?_)
      | (go_at_call 74; refine (hF _ hU.drew.blk).mono ?_; rintro r w2 ⟨rfl, hU2⟩))
    go_end0
    exact ⟨rfl, hU.drew.trans hU2⟩
  · rw [if_neg (by omega)]
    go_enter Try.func61, Try.ntmps61
    go_wp2_with (first
      | (with_reducible refine Lex.wp_region_lex (by kernel_rfl) (by decide +kernel) ?_)
      | (with_reducible refine Lex.fin_on (by kernel_rfl) ?_))
    go_end0
    exact ⟨rfl, hU.drew⟩
end Go.Proofs.Ytmflngpgmmgohaa
