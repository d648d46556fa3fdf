/-
  Walks: the small functions of package diagram.
-/
import Derived.Test.YtkppcibffbnhoaaC4
import Derived.Laws.StructEq
namespace Go.Proofs.Ytkppcibffbnhoaa
open Go.RowKit

abbrev IT := Int × Int × Int
def castT (x : Tri) : IT := (x.1, x.2.1, x.2.2)
def cN (N : List Tri) : List IT := N.map castT
theorem castT_inj {x y : Tri} (h : castT x = castT y) : x = y := by
  obtain ⟨a, b, c⟩ := x
  obtain ⟨a', b', c'⟩ := y
  simp only [castT, Prod.mk.injEq] at h
  obtain ⟨h1, h2, h3⟩ := h
  rw [show a = a' by omega, show b = b' by omega, show c = c' by omega]
theorem cN_inj : ∀ {N M : List Tri}, cN N = cN M → N = M
  | [], [], _ => rfl
  | [], y :: M, h => by simp [cN] at h
  | x :: N, [], h => by simp [cN] at h
  | x :: N, y :: M, h => by
    simp only [cN, List.map_cons, List.cons.injEq] at h
    rw [castT_inj h.1, cN_inj (N := N) (M := M) h.2]
theorem cN_length (N : List Tri) : (cN N).length = N.length := by simp [cN]
/-- A row of nodes that somebody may read, with whatever numbers. -/
def NI (w : World) (p : Option Addr) (N : List IT) : Prop :=
  ∀ k (h : k < N.length), ∃ a o, p = some ⟨a, o, none⟩ ∧ a < w.heap.size ∧ w.cell? ⟨a, o + k * 3, none⟩ = some (.int .i64 (N[k]).1) ∧ w.cell? ⟨a, o + k * 3 + 1, none⟩ = some (.int .i64 (N[k]).2.1) ∧ w.cell? ⟨a, o + k * 3 + 2, none⟩ = some (.int .i64 (N[k]).2.2)
theorem NI.below {w w' : World} {p : Option Addr} {N : List IT} (h : NI w p N) (hb : Below w.heap.size w w') : NI w' p N := fun k hk => by
  obtain ⟨a, o, h1, h2, h3, h4, h5⟩ := h k hk
  exact ⟨a, o, h1, Nat.lt_of_lt_of_le h2 hb.size, (hb.cell (p := ⟨a, _, none⟩) h2).trans h3, (hb.cell (p := ⟨a, _, none⟩) h2).trans h4, (hb.cell (p := ⟨a, _, none⟩) h2).trans h5⟩
theorem NI.fr {S : List Nat} {v v' : Value} {w w' : World} {p : Option Addr} {N : List IT} {B : Nat} (h : NI w p N) (hlt : ∀ a o, p = some ⟨a, o, none⟩ → 0 < N.length → a < B) (hb : Below B w w') : NI w' p N := fun k hk => by
  obtain ⟨a, o, h1, h2, h3, h4, h5⟩ := h k hk
  have hl := hlt a o h1 (by omega)
  exact ⟨a, o, h1, Nat.lt_of_lt_of_le h2 hb.size, (hb.cell (p := ⟨a, _, none⟩) hl).trans h3, (hb.cell (p := ⟨a, _, none⟩) hl).trans h4, (hb.cell (p := ⟨a, _, none⟩) hl).trans h5⟩
theorem NS.ni {w : World} {p : Option Addr} {N : List Tri} (h : NS w p N) : NI w p (cN N) := fun k hk => by
  obtain ⟨a, o, h1, h2, h3, h4, h5⟩ := h k (by simpa [cN] using hk)
  refine ⟨a, o, h1, h2, ?_, ?_, ?_⟩
  · simpa [cN, castT] using h3
  · simpa [cN, castT] using h4
  · simpa [cN, castT] using h5
theorem NI.ns {w : World} {p : Option Addr} {N : List Tri} (h : NI w p (cN N)) : NS w p N := fun k hk => by
  obtain ⟨a, o, h1, h2, h3, h4, h5⟩ := h k (by simpa [cN] using hk)
  refine ⟨a, o, h1, h2, ?_, ?_, ?_⟩
  · simpa [cN, castT] using h3
  · simpa [cN, castT] using h4
  · simpa [cN, castT] using h5

set_option maxRecDepth 100000
theorem islit_any (x : Int) (w : World) : Calls Try.prog 30 #[.int .i64 x] w fun e w' => e = .returned (.bool (decide (0 ≤ x) && decide (x < 12))) ∧ w = w' := by
  by_cases h : 0 ≤ x
  · have h1 : decide (0 ≤ x) = true := by simp [h]
    go_enter Try.func30, Try.ntmps30
    go_wp2
    go_ret
    exact ⟨by simp [h], rfl⟩
  · have h1 : decide (0 ≤ x) = false := by simp [h]
    go_enter Try.func30, Try.ntmps30
    go_wp2
    go_ret
    exact ⟨by simp [h], rfl⟩

def litR (N : List IT) (r : Int) : Int := if r < 2 then 12 else (N.getD (r - 2).toNat (0, 0, 0)).1
theorem litof_any (p : Option Addr) (cap : Nat) (N : List IT) (r : Int) (w : World) (h : NI w p N) (hr : r < N.length + 2) (hN : N.length ≤ 1099511627776) :
    Calls Try.prog 31 #[.slice p N.length cap, .int .i64 r] w fun e w' => e = .returned (.int .i64 (litR N r)) ∧ w = w' := by
  by_cases h2 : r < 2
  · have e : litR N r = 12 := by unfold litR; rw [if_pos h2]
    rw [e]
    go_enter Try.func31, Try.ntmps31
    go_wp2
    go_ret
    exact ⟨rfl, rfl⟩
  · obtain ⟨k, rfl⟩ : ∃ k : Nat, r = (k : Int) + 2 := ⟨(r - 2).toNat, by omega⟩
    have hk : k < N.length := by omega
    have e : litR N ((k : Int) + 2) = (N[k]).1 := by
      unfold litR
      rw [if_neg h2, show ((k : Int) + 2 - 2).toNat = k by omega, List.getD_eq_getElem?_getD, List.getElem?_eq_getElem hk]; rfl
    rw [e]
    obtain ⟨a, o, rfl, ha, x0, -, -⟩ := h k hk
    generalize (N[k]).1 = l at *
    clear h e h2
    go_enter Try.func31, Try.ntmps31
    go_wp2
    go_ret
    exact ⟨rfl, rfl⟩

theorem part3a (a b c : Int) (w : World) : (part 3 #[Value.int .i64 a, .int .i64 b, .int .i64 c] 0).run Try.prog w = .ok (.int .i64 a) w := by kernel_rfl
theorem part3b (a b c : Int) (w : World) : (part 3 #[Value.int .i64 a, .int .i64 b, .int .i64 c] 1).run Try.prog w = .ok (.int .i64 b) w := by kernel_rfl
theorem part3c (a b c : Int) (w : World) : (part 3 #[Value.int .i64 a, .int .i64 b, .int .i64 c] 2).run Try.prog w = .ok (.int .i64 c) w := by kernel_rfl
theorem run_equalIn_tri (w : World) (a b c a' b' c' : Int) : (Op.equalIn 10000 32 (.agg #[.int .i64 a, .int .i64 b, .int .i64 c]) (.agg #[.int .i64 a', .int .i64 b', .int .i64 c'])).run Try.prog w = .ok (decide ((a, b, c) = (a', b', c'))) w := by
  rw [run_equalIn_agg w 9999 32 _ _ (by kernel_rfl) (by kernel_rfl)]
  simp only [Program.fieldsOf, Try.underlying32]
  simp only [Op.eqFields]
  rw [if_pos (by decide), if_pos (by decide), if_pos (by decide)]
  simp only [Sem.run_bind, part3a, part3b, part3c, Result.andThen_ok, run_equalIn_int w 9998 3 .i64 .i64 _ _ Try.underlying3]
  by_cases h1 : a = a'
  · by_cases h2 : b = b'
    · by_cases h3 : c = c' <;> simp [h1, h2, h3, part3b, part3c, run_equalIn_int w 9998 3 .i64 .i64 _ _ Try.underlying3]
    · simp [h1, h2, part3b, part3c, run_equalIn_int w 9998 3 .i64 .i64 _ _ Try.underlying3]
  · simp [h1]
theorem run_neq_tri (w : World) (x y : IT) : (binOp .neq 32 (.agg #[.int .i64 x.1, .int .i64 x.2.1, .int .i64 x.2.2]) (.agg #[.int .i64 y.1, .int .i64 y.2.1, .int .i64 y.2.2])).run Try.prog w = .ok (.bool (!(decide (x = y)))) w := by
  rw [run_neq_struct, run_equalIn_tri]; rfl
theorem run_eql_tri (w : World) (x y : IT) : (binOp .eql 32 (.agg #[.int .i64 x.1, .int .i64 x.2.1, .int .i64 x.2.2]) (.agg #[.int .i64 y.1, .int .i64 y.2.1, .int .i64 y.2.2])).run Try.prog w = .ok (.bool (decide (x = y))) w := by
  rw [run_eql_struct, run_equalIn_tri]; rfl

set_option maxHeartbeats 8000000 in
theorem equal_any (p q : Option Addr) (c1 c2 : Nat) (N M : List IT) (w : World) (h1 : NI w p N) (h2 : NI w q M) (hN : N.length ≤ 1099511627776) (hM : M.length ≤ 1099511627776) :
    Calls Try.prog 34 #[.slice p N.length c1, .slice q M.length c2] w fun e w' => e = .returned (.bool (decide (N = M))) ∧ Below w.heap.size w w' := by
  by_cases hne : N.length = M.length
  case neg =>
    have hdd : ((N.length : Int) == M.length) = false := by simp; omega
    have hR : decide (N = M) = false := by simp; intro h; exact hne (by rw [h])
    rw [hR]
    go_enter Try.func34, Try.ntmps34
    go_wp2
    go_ret
    exact ⟨rfl, Below.refl _ _⟩
  have hdd : ((N.length : Int) == M.length) = true := by simp; omega
  have H1 := Lib.hid h1; clear h1
  have H2 := Lib.hid h2; clear h2
  have Hne := Lib.hid hne; clear hne
  go_enter Try.func34, Try.ntmps34
  go_wp2
  go_loopw [13] (fun i wr => ∃ k : Nat, i = .int .i64 k ∧ k ≤ N.length ∧ N.take k = M.take k ∧ Below w.heap.size w wr) (fun i _ => N.length - (intOf i).toNat)
  case atStart => exact ⟨0, rfl, by omega, rfl, Below.refl _ _⟩
  case round =>
    obtain ⟨k, rfl, hk, htk, hbl⟩ := hrel
    have Htk := Lib.hid htk; clear htk
    by_cases hlt : k < N.length
    · have hlt2 : k < M.length := by have := Hne.out; omega
      obtain ⟨a, o, rfl, ha, x0, x1, x2⟩ := (H1.out.below hbl) k hlt
      obtain ⟨b, o2, rfl, hb, y0, y1, y2⟩ := (H2.out.below hbl) k hlt2
      have hnx : N[k] = M[k] → N.take (k + 1) = M.take (k + 1) := fun h => by
        rw [List.take_succ_eq_append_getElem hlt, List.take_succ_eq_append_getElem hlt2, Htk.out, h]
      have hno : N[k] ≠ M[k] → ¬ N = M := fun h e => h (by subst e; rfl)
      have hrn := fun w => run_neq_tri w N[k] M[k]
      generalize N[k] = x at *
      generalize M[k] = y at *
      have Hnx := Lib.hid hnx; clear hnx
      have Hno := Lib.hid hno; clear hno
      have Hbl := Lib.hid hbl; clear hbl
      by_cases he : x = y
      · have hd : decide (x = y) = true := by simp [he]
        rw [hd] at hrn
        have He := Lib.hid he; clear he hd
        go_wp2_with (first
          | ((with_reducible refine Lex.at_region ?_); with_reducible refine Lex.wp_region_lex (by kernel_rfl) (by decide +kernel) ?_)
          | ((with_reducible refine Lex.at_fin ?_); with_reducible refine Lex.fin_on (by kernel_rfl) ?_))
        exact ⟨⟨k + 1, by go_num, by omega, Hnx.out He.out, Hbl.out.drew⟩, by simp [intOf]; omega⟩
      · have hd : decide (x = y) = false := by simp [he]
        rw [hd] at hrn
        have He := Lib.hid he; clear he hd
        have hR := Lib.hid (show decide (N = M) = false by simp; exact Hno.out He.out)
        go_wp2_with (first
          | ((with_reducible refine Lex.at_region ?_); with_reducible refine Lex.wp_region_lex (by kernel_rfl) (by decide +kernel) ?_)
          | ((with_reducible refine Lex.at_fin ?_); with_reducible refine Lex.fin_on (by kernel_rfl) ?_))
        go_ret
        exact ⟨by rw [hR.out]; rfl, Hbl.out.drew⟩
    · obtain rfl : k = N.length := by omega
      have hR := Lib.hid (show decide (N = M) = true by
        have h := Htk.out
        rw [List.take_length, Hne.out, List.take_length] at h
        simp [h])
      go_wp2
      go_ret
      exact ⟨by rw [hR.out]; rfl, hbl⟩
end Go.Proofs.Ytkppcibffbnhoaa
