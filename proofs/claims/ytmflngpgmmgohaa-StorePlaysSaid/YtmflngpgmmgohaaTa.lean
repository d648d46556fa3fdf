/-
  Walks: the document's reader of bytes.
-/
import Derived.Test.YtmflngpgmmgohaaSg
namespace Go.Proofs.Ytmflngpgmmgohaa
open Go.RowKit

/-- A reader: bytes, a place, a code. -/
def inObj (S : ByteArray) (i : Nat) (e : Int) : Obj := .cells #[.string S, .int .i64 i, .int .i64 e] 86
theorem cells3 {w : World} {b : Nat} {v0 v1 v2 : Value} {t : TypeId} (h : w.heap[b]? = some (.cells #[v0, v1, v2] t)) :
    w.cell? ⟨b, 0, none⟩ = some v0 ∧ w.cell? ⟨b, 1, none⟩ = some v1 ∧ w.cell? ⟨b, 2, none⟩ = some v2 ∧ ∀ i, w.frozen? ⟨b, i, none⟩ = false := by
  simp [World.cell?, World.frozen?, h]

theorem fail_any (b : Nat) (S : ByteArray) (i : Nat) (e c : Int) (w : World) (hb : w.heap[b]? = some (inObj S i e)) :
    Calls Try.prog 74 #[.pointer (some ⟨b, 0, none⟩), .int .i64 c] w fun r w' => r = .returned (.tuple #[]) ∧ Upd b (inObj S i (if e = 0 then c else e)) w w' := by
  obtain ⟨c0, c1, c2, fz⟩ := cells3 hb
  by_cases he : e = 0
  · rw [if_pos he]
    have hd : (e == 0) = true := by simpa using he
    have hF := Upd.set (i := 2) (v := .int .i64 c) (Upd.refl hb)
    subst he
    go_enter Try.func74, Try.ntmps74
    go_wp2
    go_end0
    exact ⟨rfl, Upd.cast hF (by simp [inObj])⟩
  · rw [if_neg he]
    have hd : (e == 0) = false := by simpa using he
    have hF := Upd.refl hb
    go_enter Try.func74, Try.ntmps74
    go_wp2
    go_end0
    exact ⟨rfl, hF⟩

set_option maxRecDepth 100000 in
set_option maxHeartbeats 8000000 in
/-- Reading a byte: behind an error, or at the end. -/
theorem one_bad (b : Nat) (S : ByteArray) (i : Nat) (e : Int) (w : World) (hb : w.heap[b]? = some (inObj S i e)) (h : ¬ e = 0 ∨ S.size ≤ i) :
    Calls Try.prog 88 #[.pointer (some ⟨b, 0, none⟩)] w fun r w' => r = .returned (.int .u8 0) ∧ Upd b (inObj S i (if e = 0 then 26 else e)) w w' := by
  obtain ⟨c0, c1, c2, fz⟩ := cells3 hb
  have hF := fun w1 h => fail_any b S i e 26 w1 h
  have hU := Upd.refl hb
  by_cases he : e = 0
  · have hd : (e == 0) = true := by simpa using he
    have hle : S.size ≤ i := by rcases h with h | h; exact absurd he h; exact h
    subst he
    go_enter Try.func88, Try.ntmps88
    go_wp2_with (first
      | (with_reducible refine Lex.wp_region_lex (by kernel_rfl) (by decide +kernel) ?_)
      | (with_reducible refine Lex.fin_on (by kernel_rfl) ?_)
      | (go_at_call 74; refine (hF _ (by first | exact hU.blk | exact hU.drew.blk)).mono ?_; rintro r w1 ⟨rfl, hU1⟩))
    go_ret
    exact ⟨rfl, by first | exact hU.trans hU1 | exact hU.drew.trans hU1⟩
  · have hd : (e == 0) = false := by simpa using he
    have hd2 : (e != 0) = true := by simpa using he
    rw [if_neg he] at hF ⊢
    go_enter Try.func88, Try.ntmps88
    go_wp2_with (first
      | (with_reducible refine Lex.wp_region_lex (by kernel_rfl) (by decide +kernel) ?_)
      | (with_reducible refine Lex.fin_on (by kernel_rfl) ?_)
      | (go_at_call 74; refine (hF _ (by first | exact hU.blk | exact hU.drew.blk)).mono ?_; rintro r w1 ⟨rfl, hU1⟩))
    go_ret
    exact ⟨rfl, by first | exact hU.trans hU1 | exact hU.drew.trans hU1⟩

set_option maxRecDepth 100000 in
set_option maxHeartbeats 8000000 in
theorem one_ok (b : Nat) (S : ByteArray) (i : Nat) (w : World) (hb : w.heap[b]? = some (inObj S i 0)) (h : i < S.size) (hs : S.size ≤ 1048576) :
    Calls Try.prog 88 #[.pointer (some ⟨b, 0, none⟩)] w fun r w' => r = .returned (.int .u8 S[i].toNat) ∧ Upd b (inObj S (i + 1) 0) w w' := by
  obtain ⟨c0, c1, c2, fz⟩ := cells3 hb
  have hU := Upd.refl hb
  have hV := Upd.cast (Upd.set (i := 1) (v := .int .i64 ((i : Int) + 1)) hU) (o' := inObj S (i + 1) 0) (by simp [inObj])
  go_enter Try.func88, Try.ntmps88
  go_wp2_with (first
    | (with_reducible refine Lex.wp_region_lex (by kernel_rfl) (by decide +kernel) ?_)
    | (with_reducible refine Lex.fin_on (by kernel_rfl) ?_))
  go_ret
  exact ⟨rfl, hV.drew.drew⟩

/-- Reading an integer: what is read (twice the number), and where the reader stands. -/
def refGo (S : ByteArray) : Nat → Nat → Nat → Nat → Option (Nat × Nat)
  | 0, _, z, p => some (z, p)
  | f + 1, i, z, p =>
    if h : p < S.size then
      if (i = 9 ∧ 1 < S[p].toNat) ∨ (S[p].toNat = 0 ∧ 0 < i) then none
      else if S[p].toNat < 128 then some (z + S[p].toNat % 128 * 2 ^ (7 * i), p + 1)
      else refGo S f (i + 1) (z + S[p].toNat % 128 * 2 ^ (7 * i)) (p + 1)
    else none
def refV (S : ByteArray) (p : Nat) : Option (Nat × Nat) := refGo S 10 0 0 p
def unzig (z : Nat) : Int := if z % 2 = 1 then -((z / 2 : Nat) : Int) - 1 else ((z / 2 : Nat) : Int)
def intR (S : ByteArray) (b : Nat) (o : Option (Nat × Nat)) (r : Ending) (w w' : World) : Prop :=
  match o with
  | some (z, p) => r = .returned (.int .i64 (unzig z)) ∧ Upd b (inObj S p 0) w w'
  | none => r = .returned (.int .i64 0) ∧ ∃ (p : Nat) (e : Int), ¬ e = 0 ∧ Upd b (inObj S p e) w w'

structure RV (S : ByteArray) (b p0 : Nat) (w : World) (i z p : Nat) (wr : World) : Prop where
  le : i ≤ 9
  lt : z < 2 ^ (7 * i)
  eq : refGo S (10 - i) i z p = refV S p0
  upd : Upd b (inObj S p 0) w wr

set_option maxRecDepth 100000 in
set_option maxHeartbeats 8000000 in
theorem int_bad (b : Nat) (S : ByteArray) (p : Nat) (e : Int) (w : World) (hb : w.heap[b]? = some (inObj S p e)) (h : ¬ e = 0) :
    Calls Try.prog 82 #[.pointer (some ⟨b, 0, none⟩)] w fun r w' => r = .returned (.int .i64 0) ∧ Upd b (inObj S p e) w w' := by
  have h1 := fun w1 hb => one_bad b S p e w1 hb (.inl h)
  rw [if_neg h] at h1
  have hd2 : (e != 0) = true := by simpa using h
  have hc := fun w1 (hu : Upd b (inObj S p e) w w1) => cells3 hu.blk
  go_enter Try.func82, Try.ntmps82
  go_wp2
  go_loopw [3, 4] (fun z i wr => i = .int .u64 0 ∧ z = .int .u64 0 ∧ wr = w) (fun _ _ _ => 0)
  case atStart => exact ⟨rfl, rfl, rfl⟩
  case round =>
    obtain ⟨rfl, rfl, rfl⟩ := hrel
    go_wp2_with (first
      | (with_reducible refine Lex.wp_region_lex (by kernel_rfl) (by decide +kernel) ?_)
      | (with_reducible refine Lex.fin_on (by kernel_rfl) ?_)
      | (go_at_call 88; refine (h1 _ hb).mono ?_; rintro r w1 ⟨rfl, hU1⟩; obtain ⟨d0, d1, d2, fz⟩ := hc w1 hU1))
    go_ret
    exact ⟨rfl, hU1⟩
end Go.Proofs.Ytmflngpgmmgohaa
