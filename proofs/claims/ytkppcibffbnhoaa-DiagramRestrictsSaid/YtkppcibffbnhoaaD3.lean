/-
  Walks: literalOf and branch on trees, sound, True, False, Literal.
-/
import Derived.Test.YtkppcibffbnhoaaD2
import Derived.Test.YtkppcibffbnhoaaB3
namespace Go.Proofs.Ytkppcibffbnhoaa
open Go.RowKit

set_option maxRecDepth 100000
theorem litof_tree (p : Option Addr) (cap : Nat) (L : List T) (t : T) (w : World) (h : NS w p (nodes L)) (wL : Wf L) (iL : inn L t) (hL : L.length ≤ 1000000) :
    Calls Try.prog 31 #[.slice p (nodes L).length cap, .int .i64 (ref L t)] w fun e w' => e = .returned (.int .i64 t.lit) ∧ w = w' := by
  have hr := ref_lt iL
  have h1 := litof_any p cap (cN (nodes L)) (ref L t) w h.ni (by rw [cN_length, nodes_length]; omega) (by rw [cN_length, nodes_length]; omega)
  rw [cN_length, litR_tr wL (by rw [List.take_of_length_le (by rw [cN_length, nodes_length]; exact Nat.le_refl _)]) hr, tr_ref iL] at h1
  exact h1

theorem lit_c : ∀ {t : T}, t.lit ≠ 12 → ∃ l h k, t = .n l h k
  | .c _, h => absurd rfl h
  | .n l h k, _ => ⟨l, h, k, rfl⟩
set_option maxHeartbeats 4000000 in
theorem branch_tree (p : Option Addr) (cap : Nat) (L : List T) (t : T) (n : Nat) (w : World) (h : NS w p (nodes L)) (wL : Wf L) (iL : inn L t) (hL : L.length ≤ 1000000) (hn : n < 12) :
    Calls Try.prog 55 #[.slice p (nodes L).length cap, .int .i64 (ref L t), .int .i64 n] w fun e w' => e = .returned (.tuple #[.int .i64 (ref L (t.hi n)), .int .i64 (ref L (t.lo n))]) ∧ ∃ m, w' = w.drewN m := by
  have hlit := litof_tree p cap L t w h wL iL hL
  have hlen := nodes_length L
  have hr := ref_lt iL
  by_cases he : t.lit = n
  · obtain ⟨l, H, K, rfl⟩ := lit_c (show t.lit ≠ 12 by omega)
    have e1 : (T.n l H K).hi n = H := by simp only [T.lit] at he; simp [T.hi, he]
    have e2 : (T.n l H K).lo n = K := by simp only [T.lit] at he; simp [T.lo, he]
    rw [e1, e2]
    obtain ⟨hidx, hnode⟩ := nodes_at (show T.n l H K ∈ L from iL)
    obtain ⟨a, o, rfl, ha, x0, x1, x2⟩ := h _ hidx
    simp only [hnode] at x0 x1 x2
    have hrt : ref L (T.n l H K) = L.idxOf (T.n l H K) + 2 := rfl
    rw [hrt] at hlit ⊢
    generalize L.idxOf (T.n l H K) = idx at *
    generalize ref L H = rh at *
    generalize ref L K = rk at *
    have he' : l = n := he
    subst he'
    have hlit' : Calls Try.prog 31 #[.slice (some ⟨a, o, none⟩) (nodes L).length cap, .int .i64 ((idx + 2 : Nat) : Int)] w fun e w' => e = .returned (.int .i64 l) ∧ w = w' := hlit
    clear hlit h hnode hrt e1 e2 he
    have hlb : (nodes L).length ≤ 1000000 := by omega
    generalize (nodes L).length = len at *
    clear hlen
    have hi2 : ((idx + 2 : Nat) : Int) = (idx : Int) + 2 := by simp
    rw [hi2] at hlit' ⊢
    clear hi2
    go_enter Try.func55, Try.ntmps55
    go_upto_region 3 with (go_at_call 31; refine hlit'.mono ?_; rintro e u ⟨rfl, hu⟩; subst hu)
    go_wp2_with (first
      | ((with_reducible refine Lex.at_region ?_); with_reducible refine Lex.wp_region_lex (by kernel_rfl) (by decide +kernel) ?_)
      | ((with_reducible refine Lex.at_fin ?_); with_reducible refine Lex.fin_on (by kernel_rfl) ?_))
    go_ret2
    exact ⟨rfl, 1, rfl⟩
  · have e1 : t.hi n = t := by
      cases t with
      | c b => rfl
      | n l H K => simp only [T.lit] at he; simp only [T.hi]; rw [if_neg he]
    have e2 : t.lo n = t := by
      cases t with
      | c b => rfl
      | n l H K => simp only [T.lit] at he; simp only [T.lo]; rw [if_neg he]
    rw [e1, e2]
    have hd : ((t.lit : Int) == n) = false := by simp; omega
    have hd' : ((t.lit : Int) != n) = true := by simp; omega
    have hd2 : (t.lit == n) = false := by simp; omega
    clear e1 e2 he
    generalize t.lit = l at *
    generalize ref L t = r at *
    generalize (nodes L).length = len at *
    clear hlen
    go_enter Try.func55, Try.ntmps55
    go_wp2_with (go_at_call 31; refine hlit.mono ?_; rintro e u ⟨rfl, hu⟩; subst hu)
    go_ret2
    exact ⟨rfl, 0, rfl⟩
end Go.Proofs.Ytkppcibffbnhoaa
