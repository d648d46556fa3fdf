/-
  Walks: combine's closure.
-/
import Derived.Test.YtkppcibffbnhoaaE1
namespace Go.Proofs.Ytkppcibffbnhoaa
open Go.RowKit

theorem eq_c {R : T} {b : Bool} (o : R.Ok) (h : ∀ a, R.ev a = b) : R = .c b := ev_eq o trivial fun a => by rw [h]; rfl
theorem refc (L : List T) (b : Bool) : ref L (.c b) < 2 ∧ (((ref L (.c b) : Nat) : Int) == 1) = b := by cases b <;> simp [ref]

set_option maxRecDepth 100000
set_option maxHeartbeats 8000000 in
/-- Both constants. -/
theorem apply_const (c : CP) (m : Nat) (x y R : T) (L : List T) (K : List (Nat × Nat)) (f : Nat × Nat → Option Int) (v : Value) (w : World) (h : CI c L K f v w) (p q : Bool) (hx : x = .c p) (hy : y = .c q) (oR : R.Ok) (hR : ∀ a, R.ev a = c.op (x.ev a) (y.ev a)) :
    Calls Try.prog 54 #[.int .i64 (ref c.La x), .int .i64 (ref c.Lb y), .pointer (some ⟨c.opv, 0, none⟩), .pointer (some ⟨c.rsv, 0, none⟩), .pointer (some ⟨c.av, 0, none⟩), .pointer (some ⟨c.bv, 0, none⟩), .pointer (some ⟨c.ouv, 0, none⟩), .pointer (some ⟨c.apv, 0, none⟩)] w (AR c R m L K v w) := by
  subst hx; subst hy
  obtain rfl := eq_c oR (b := c.op p q) fun a => by rw [hR]; rfl
  have hfin : AR c (.c (c.op p q)) m L K v w (.returned (.int .i64 (ref L (.c (c.op p q))))) w := ⟨L, K, f, v, rfl, Grow.refl _, trivial, h, Fr.refl _ _ _, fun z hz => .inl hz⟩
  obtain ⟨x1, x2⟩ := refc c.La p
  obtain ⟨y1, y2⟩ := refc c.Lb q
  have hop := h.s.hop p q
  have hcf := h.s.hcf
  obtain ⟨o0, -⟩ := cells1 h.s.opv
  have H := Lib.hid h; clear h
  generalize ref c.La (.c p) = rx at *
  generalize ref c.Lb (.c q) = ry at *
  have fx : decide ((rx : Int) < 2) = true := by simp; omega
  have fy : decide ((ry : Int) < 2) = true := by simp; omega
  cases hob : c.op p q with
  | true =>
    rw [hob] at hop hfin
    have e : ref L (.c true) = 1 := rfl
    rw [e] at hfin
    have Hf := Lib.hid hfin
    clear hfin e hob hR oR x1 y1
    go_enter Try.func54, Try.ntmps54
    go_wp2_with (first
      | ((with_reducible refine (hop _).mono ?_); rintro e u ⟨rfl, hu⟩; subst hu))
    go_ret
    exact Hf.out
  | false =>
    rw [hob] at hop hfin
    have e : ref L (.c false) = 0 := rfl
    rw [e] at hfin
    have Hf := Lib.hid hfin
    clear hfin e hob hR oR x1 y1
    go_enter Try.func54, Try.ntmps54
    go_wp2_with (first
      | ((with_reducible refine (hop _).mono ?_); rintro e u ⟨rfl, hu⟩; subst hu))
    go_ret
    exact Hf.out
theorem hcf39 (args : Array Value) (w : World) : (callFunc 39 args).run Try.prog w = .ok (.enter 39 args) w := by kernel_rfl
theorem hcf40 (args : Array Value) (w : World) : (callFunc 40 args).run Try.prog w = .ok (.enter 40 args) w := by kernel_rfl
theorem hcf41 (args : Array Value) (w : World) : (callFunc 41 args).run Try.prog w = .ok (.enter 41 args) w := by kernel_rfl
theorem and_any (p q : Bool) (w : World) : Calls Try.prog 39 #[.bool p, .bool q] w fun e w' => e = .returned (.bool (p && q)) ∧ w = w' := by
  cases p <;> cases q <;> (go_enter Try.func39, Try.ntmps39; go_wp2; go_ret; exact ⟨rfl, rfl⟩)
theorem or_any (p q : Bool) (w : World) : Calls Try.prog 40 #[.bool p, .bool q] w fun e w' => e = .returned (.bool (p || q)) ∧ w = w' := by
  cases p <;> cases q <;> (go_enter Try.func40, Try.ntmps40; go_wp2; go_ret; exact ⟨rfl, rfl⟩)
theorem not_any (p q : Bool) (w : World) : Calls Try.prog 41 #[.bool p, .bool q] w fun e w' => e = .returned (.bool (!p && q)) ∧ w = w' := by
  cases p <;> cases q <;> (go_enter Try.func41, Try.ntmps41; go_wp2; go_ret; exact ⟨rfl, rfl⟩)
end Go.Proofs.Ytkppcibffbnhoaa
