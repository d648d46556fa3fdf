/- Walks and plain facts for the laws of membership, for all values and types that the heap holds (texts K4). -/
import Derived.Test.YtjgldaaofdpcgaaGreatU12
set_option linter.unusedVariables false
set_option linter.unusedSimpArgs false
namespace Go.Proofs.YtjgldaaofdpcgaaGreat
open Go.RowKit
set_option maxRecDepth 100000
theorem zeroV_vs (w : World) : VS w 1 zeroV [.int .i64 0, .int .i64 0, .string ⟨#[]⟩, .slice none 0 0, .slice none 0 0, .slice none 0 0, .slice none 0 0] :=
  ⟨none, 0, none, 0, none, 0, none, 0, rfl, Rw.nil _ _ _ _ _, Rw.nil _ _ _ _ _, Rw.nil _ _ _ _ _, Rw.nil _ _ _ _ _⟩
theorem int_dec (x : Int) : (x == 0) = decide (x = 0) := by rw [Bool.eq_iff_iff]; simp
set_option maxHeartbeats 8000000 in
theorem equal_any (a b : VV) (w : World) (u v : Value) (hu : VW w u a) (hv : VW w v b) : Calls Tryz.prog 139 #[u, v] w (ER (decide (cmpV a b = 0)) w) := by
  have Hu := Lib.hid hu; have Hv := Lib.hid hv
  obtain ⟨_, q1, q2, q3, q4, q5, q6, q7, q8, rfl, -, -, -, -, -⟩ := hu.ex
  obtain ⟨_, r1, r2, r3, r4, r5, r6, r7, r8, rfl, -, -, -, -, -⟩ := hv.ex
  clear hu hv
  rw [← int_dec]
  go_enter Tryz.func139, Tryz.ntmps139
  go_upto_region 1 with fail
  obtain ⟨w2, e9, hA, hB, hb⟩ := boxes2 w (.cells #[.int .i64 a.kind, .int .i64 a.num, .string a.text, .slice q1 a.kids.length q2, .slice q3 a.keys.length q4, .slice q5 a.ents.length q6, .slice q7 a.labels.length q8] 28) (.cells #[.int .i64 b.kind, .int .i64 b.num, .string b.text, .slice r1 b.kids.length r2, .slice r3 b.keys.length r4, .slice r5 b.ents.length r6, .slice r7 b.labels.length r8] 28)
  rw [e9]
  have Hb := Lib.hid hb
  obtain ⟨⟨f0, f1, f2, f3⟩, f4, f5, f6⟩ := cells7 hA
  obtain ⟨⟨g0, g1, g2, g3⟩, g4, g5, g6⟩ := cells7 hB
  have Hc := Lib.hid (compare_any a b w2 _ _ (Hu.out.below hb) (Hv.out.below hb))
  have Hc2 := Lib.hid (compare_any a b w2.drew _ _ (Hu.out.below hb.drew) (Hv.out.below hb.drew))
  clear e9 hA hB hb
  generalize cmpV a b = c at *
  go_wp2_with (first
    | ((with_reducible refine Lex.at_region ?_); with_reducible refine Lex.wp_region_lex (by kernel_rfl) (by decide +kernel) ?_)
            | ((with_reducible refine Lex.at_fin ?_); with_reducible refine Lex.fin_on (by kernel_rfl) ?_)
    | (go_at_call 130; refine Hc2.out.mono ?_; rintro e w6 ⟨rfl, q⟩; have Hb6 := Lib.hid (Hb.out.drew.step q); clear q)
    | (go_at_call 130; refine Hc.out.mono ?_; rintro e w6 ⟨rfl, q⟩; have Hb6 := Lib.hid (Hb.out.step q); clear q))
  go_ret
  exact ⟨rfl, Hb6.out⟩
set_option maxHeartbeats 8000000 in
theorem isZero_any (a : VV) (w : World) (u : Value) (hu : VW w u a) : Calls Tryz.prog 131 #[u] w (ER (decide (cmpV a zeroV = 0)) w) := by
  have Hu := Lib.hid hu
  obtain ⟨_, q1, q2, q3, q4, q5, q6, q7, q8, rfl, -, -, -, -, -⟩ := hu.ex
  clear hu
  go_enter Tryz.func131, Tryz.ntmps131
  go_upto_region 1 with fail
  have hA := heap_alloc_new w (.cells #[.int .i64 a.kind, .int .i64 a.num, .string a.text, .slice q1 a.kids.length q2, .slice q3 a.keys.length q4, .slice q5 a.ents.length q6, .slice q7 a.labels.length q8] 28)
  have hb : Below w.heap.size w (w.alloc (.cells #[.int .i64 a.kind, .int .i64 a.num, .string a.text, .slice q1 a.kids.length q2, .slice q3 a.keys.length q4, .slice q5 a.ents.length q6, .slice q7 a.labels.length q8] 28)) := (Below.refl _ _).alloc (Nat.le_refl _) _
  generalize w.alloc (.cells #[.int .i64 a.kind, .int .i64 a.num, .string a.text, .slice q1 a.kids.length q2, .slice q3 a.keys.length q4, .slice q5 a.ents.length q6, .slice q7 a.labels.length q8] 28) = w2 at *
  have Hb := Lib.hid hb
  obtain ⟨⟨f0, f1, f2, f3⟩, f4, f5, f6⟩ := cells7 hA
  have Hc := Lib.hid (equal_any a zeroV w2 _ (.agg #[.int .i64 0, .int .i64 0, .string ⟨#[]⟩, .slice none 0 0, .slice none 0 0, .slice none 0 0, .slice none 0 0]) (Hu.out.below hb) ⟨1, _, rfl, zeroV_vs _⟩)
  have Hc2 := Lib.hid (equal_any a zeroV w2.drew _ (.agg #[.int .i64 0, .int .i64 0, .string ⟨#[]⟩, .slice none 0 0, .slice none 0 0, .slice none 0 0, .slice none 0 0]) (Hu.out.below hb.drew) ⟨1, _, rfl, zeroV_vs _⟩)
  clear hA hb
  go_wp2_with (first
    | ((with_reducible refine Lex.at_region ?_); with_reducible refine Lex.wp_region_lex (by kernel_rfl) (by decide +kernel) ?_)
            | ((with_reducible refine Lex.at_fin ?_); with_reducible refine Lex.fin_on (by kernel_rfl) ?_)
    | (go_at_call 139; refine Hc2.out.mono ?_; rintro e w6 ⟨rfl, q⟩; have Hb6 := Lib.hid (Hb.out.drew.step q); clear q)
    | (go_at_call 139; refine Hc.out.mono ?_; rintro e w6 ⟨rfl, q⟩; have Hb6 := Lib.hid (Hb.out.step q); clear q))
  go_ret
  exact ⟨rfl, Hb6.out⟩
theorem asc_iff {α : Type} {f : α → α → Int} : ∀ {l : List α}, ascL f l = true ↔ ∀ j (h : j + 1 < l.length), f (l[j]'(by omega)) l[j + 1] < 0
  | [] => by simp [ascL]
  | [x] => by simp [ascL]
  | x :: y :: r => by
    rw [ascL, Bool.and_eq_true, decide_eq_true_eq, asc_iff (l := y :: r)]
    constructor
    · rintro ⟨h1, h2⟩ j hj
      cases j with
      | zero => exact h1
      | succ j => exact h2 j (by simpa using hj)
    · intro h
      exact ⟨h 0 (by simp), fun j hj => h (j + 1) (by simpa using hj)⟩
set_option maxHeartbeats 16000000 in
theorem ascK_any (l : List KK) (w : World) (u : Value) (ha : KY w u l) : Calls Tryz.prog 123 #[u, .func (.func 116) #[] #[]] w (ER (ascL cmpK l) w) := by
  have HA := Lib.hid ha
  have hL : l.length ≤ 9223372036854775807 := by obtain ⟨_, _, _, h⟩ := ha; exact h.big
  obtain ⟨pa, ca, rfl, -⟩ := ha
  go_enter Tryz.func123, Tryz.ntmps123
  go_wp2
  go_loopw [5] (fun i wr => ∃ k : Nat, i = .int .i64 ((k + 1 : Nat) : Int) ∧ k ≤ l.length ∧ (∀ j (h : j + 1 < l.length), j < k → cmpK (l[j]'(by omega)) l[j + 1] < 0) ∧ Below w.heap.size w wr) (fun i _ => l.length + 1 - (intOf i).toNat)
  case atStart => exact ⟨0, rfl, by omega, fun j _ h => by omega, Below.refl _ _⟩
  case round =>
    obtain ⟨k, rfl, hk, hall, hb⟩ := hrel
    have Hall := Lib.hid hall; have Hb := Lib.hid hb; clear hall hb
    by_cases hk1 : k + 1 < l.length
    · have hk0 : k < l.length := by omega
      obtain ⟨py, cy, ey, hry⟩ := HA.out.below Hb.out
      injection ey with ey1 _ ey3
      subst ey1 ey3
      obtain ⟨ay, oy, rfl, haby, y0, y1⟩ := hry.key hk0
      clear hry
      obtain ⟨pz, cz, ez, hrz⟩ := HA.out.below Hb.out
      injection ez with ez1 _ ez3
      subst ez1 ez3
      obtain ⟨az, oz, epz, habz, z0, z1⟩ := hrz.key hk1
      injection epz with epz
      injection epz with epz1 epz2
      subst epz1 epz2
      clear hrz
      have Hcall := Lib.hid (keys_any (l[k]) (l[k + 1]) wr.drew)
      have Hno := Lib.hid (show ¬ cmpK l[k] l[k + 1] < 0 → ascL cmpK l = false from fun h => by
        rw [Bool.eq_false_iff]; intro h2; exact h (asc_iff.1 h2 k hk1))
      have Hnx := Lib.hid (show cmpK l[k] l[k + 1] < 0 → ∀ j (h : j + 1 < l.length), j < k + 1 → cmpK (l[j]'(by omega)) l[j + 1] < 0 from fun g j h hjk => by
        rcases Nat.lt_succ_iff_lt_or_eq.1 hjk with g2 | rfl
        · exact Hall.out j h g2
        · exact g)
      generalize l[k] = X at *
      generalize l[k + 1] = Y at *
      by_cases hz : cmpK X Y < 0
      · have Hnx2 := Lib.hid (Hnx.out hz)
        have d1 : decide (0 ≤ cmpK X Y) = false := by simp; omega
        clear hz
        generalize cmpK X Y = c at *
        go_wp2_with (first
          | ((with_reducible refine Lex.at_region ?_); with_reducible refine Lex.wp_region_lex (by kernel_rfl) (by decide +kernel) ?_)
            | ((with_reducible refine Lex.at_fin ?_); with_reducible refine Lex.fin_on (by kernel_rfl) ?_)
          | (go_at_call 116; refine Hcall.out.mono ?_; rintro e w6 ⟨rfl, hb6⟩; have Hb6 := Lib.hid (Hb.out.drew.step hb6); clear hb6))
        exact ⟨⟨k + 1, by go_num, by omega, Hnx2.out, Hb6.out⟩, by simp [intOf]; omega⟩
      · have Hf := Lib.hid (Hno.out hz)
        have d1 : decide (0 ≤ cmpK X Y) = true := by simp; omega
        clear hz
        generalize cmpK X Y = c at *
        go_wp2_with (first
          | ((with_reducible refine Lex.at_region ?_); with_reducible refine Lex.wp_region_lex (by kernel_rfl) (by decide +kernel) ?_)
            | ((with_reducible refine Lex.at_fin ?_); with_reducible refine Lex.fin_on (by kernel_rfl) ?_)
          | (go_at_call 116; refine Hcall.out.mono ?_; rintro e w6 ⟨rfl, hb6⟩; have Hb6 := Lib.hid (Hb.out.drew.step hb6); clear hb6))
        go_ret
        rw [Hf.out]
        exact ⟨rfl, Hb6.out⟩
    · have Hy := Lib.hid (show ascL cmpK l = true from asc_iff.2 fun j h => Hall.out j h (by omega))
      have d9 : decide (k + 1 < l.length) = false := by simp; omega
      go_wp2
      go_ret
      rw [Hy.out]
      exact ⟨rfl, Hb.out⟩
set_option maxHeartbeats 16000000 in
theorem ascE_any (l : List EE) (w : World) (u : Value) (ha : EY w u l) : Calls Tryz.prog 124 #[u, .func (.func 125) #[] #[]] w (ER (ascL cmpE l) w) := by
  have HA := Lib.hid ha
  have hL : l.length ≤ 9223372036854775807 := by obtain ⟨_, _, _, _, h⟩ := ha; exact h.big
  obtain ⟨_, pa, ca, rfl, -⟩ := ha
  go_enter Tryz.func124, Tryz.ntmps124
  go_wp2
  go_loopw [5] (fun i wr => ∃ k : Nat, i = .int .i64 ((k + 1 : Nat) : Int) ∧ k ≤ l.length ∧ (∀ j (h : j + 1 < l.length), j < k → cmpE (l[j]'(by omega)) l[j + 1] < 0) ∧ Below w.heap.size w wr) (fun i _ => l.length + 1 - (intOf i).toNat)
  case atStart => exact ⟨0, rfl, by omega, fun j _ h => by omega, Below.refl _ _⟩
  case round =>
    obtain ⟨k, rfl, hk, hall, hb⟩ := hrel
    have Hall := Lib.hid hall; have Hb := Lib.hid hb; clear hall hb
    by_cases hk1 : k + 1 < l.length
    · have hk0 : k < l.length := by omega
      obtain ⟨dy, py, cy, ey, hry⟩ := HA.out.below Hb.out
      injection ey with ey1 _ ey3
      subst ey1 ey3
      obtain ⟨ay, oy, csy, rfl, haby, -, hrgy, hPy⟩ := hry.at hk0
      obtain ⟨q1, q2, q3, q4, q5, q6, q7, q8, q9, qa, rfl⟩ := hPy.nine
      have y0 := hrgy 0 _ rfl
      have y1 := hrgy 1 _ rfl
      have y2 := hrgy 2 _ rfl
      have y3 := hrgy 3 _ rfl
      have y4 := hrgy 4 _ rfl
      have y5 := hrgy 5 _ rfl
      have y6 := hrgy 6 _ rfl
      have y7 := hrgy 7 _ rfl
      have y8 := hrgy 8 _ rfl
      rw [Nat.add_zero] at y0
      have HPy := Lib.hid hPy
      clear hry hrgy hPy
      obtain ⟨dz, pz, cz, ez, hrz⟩ := HA.out.below Hb.out
      injection ez with ez1 _ ez3
      subst ez1 ez3
      obtain ⟨az, oz, csz, epz, habz, -, hrgz, hPz⟩ := hrz.at hk1
      obtain ⟨r1, r2, r3, r4, r5, r6, r7, r8, r9, ra, rfl⟩ := hPz.nine
      have z0 := hrgz 0 _ rfl
      have z1 := hrgz 1 _ rfl
      have z2 := hrgz 2 _ rfl
      have z3 := hrgz 3 _ rfl
      have z4 := hrgz 4 _ rfl
      have z5 := hrgz 5 _ rfl
      have z6 := hrgz 6 _ rfl
      have z7 := hrgz 7 _ rfl
      have z8 := hrgz 8 _ rfl
      rw [Nat.add_zero] at z0
      have HPz := Lib.hid hPz
      injection epz with epz
      injection epz with epz1 epz2
      subst epz1 epz2
      clear hrz hrgz hPz
      have Hcall := Lib.hid (compareEntries_any (l[k]) (l[k + 1]) wr.drew _ _ _ _ (HPy.out.below (Below.refl _ _).drew) (HPz.out.below (Below.refl _ _).drew))
      have Hno := Lib.hid (show ¬ cmpE l[k] l[k + 1] < 0 → ascL cmpE l = false from fun h => by
        rw [Bool.eq_false_iff]; intro h2; exact h (asc_iff.1 h2 k hk1))
      have Hnx := Lib.hid (show cmpE l[k] l[k + 1] < 0 → ∀ j (h : j + 1 < l.length), j < k + 1 → cmpE (l[j]'(by omega)) l[j + 1] < 0 from fun g j h hjk => by
        rcases Nat.lt_succ_iff_lt_or_eq.1 hjk with g2 | rfl
        · exact Hall.out j h g2
        · exact g)
      generalize l[k] = X at *
      generalize l[k + 1] = Y at *
      by_cases hz : cmpE X Y < 0
      · have Hnx2 := Lib.hid (Hnx.out hz)
        have d1 : decide (0 ≤ cmpE X Y) = false := by simp; omega
        clear hz
        generalize cmpE X Y = c at *
        go_wp2_with (first
          | ((with_reducible refine Lex.at_region ?_); with_reducible refine Lex.wp_region_lex (by kernel_rfl) (by decide +kernel) ?_)
            | ((with_reducible refine Lex.at_fin ?_); with_reducible refine Lex.fin_on (by kernel_rfl) ?_)
          | (go_at_call 125; refine Hcall.out.mono ?_; rintro e w6 ⟨rfl, hb6⟩; have Hb6 := Lib.hid (Hb.out.drew.step hb6); clear hb6))
        exact ⟨⟨k + 1, by go_num, by omega, Hnx2.out, Hb6.out⟩, by simp [intOf]; omega⟩
      · have Hf := Lib.hid (Hno.out hz)
        have d1 : decide (0 ≤ cmpE X Y) = true := by simp; omega
        clear hz
        generalize cmpE X Y = c at *
        go_wp2_with (first
          | ((with_reducible refine Lex.at_region ?_); with_reducible refine Lex.wp_region_lex (by kernel_rfl) (by decide +kernel) ?_)
            | ((with_reducible refine Lex.at_fin ?_); with_reducible refine Lex.fin_on (by kernel_rfl) ?_)
          | (go_at_call 125; refine Hcall.out.mono ?_; rintro e w6 ⟨rfl, hb6⟩; have Hb6 := Lib.hid (Hb.out.drew.step hb6); clear hb6))
        go_ret
        rw [Hf.out]
        exact ⟨rfl, Hb6.out⟩
    · have Hy := Lib.hid (show ascL cmpE l = true from asc_iff.2 fun j h => Hall.out j h (by omega))
      have d9 : decide (k + 1 < l.length) = false := by simp; omega
      go_wp2
      go_ret
      rw [Hy.out]
      exact ⟨rfl, Hb.out⟩
set_option maxHeartbeats 16000000 in
theorem ascS_any (l : List ByteArray) (w : World) (u : Value) (ha : SS w u l) : Calls Tryz.prog 121 #[u, .func (.func 122) #[] #[]] w (ER (ascL ordS l) w) := by
  have HA := Lib.hid ha
  have hL : l.length ≤ 9223372036854775807 := by obtain ⟨_, _, _, h⟩ := ha; exact h.big
  obtain ⟨pa, ca, rfl, -⟩ := ha
  go_enter Tryz.func121, Tryz.ntmps121
  go_wp2
  go_loopw [5] (fun i wr => ∃ k : Nat, i = .int .i64 ((k + 1 : Nat) : Int) ∧ k ≤ l.length ∧ (∀ j (h : j + 1 < l.length), j < k → ordS (l[j]'(by omega)) l[j + 1] < 0) ∧ Below w.heap.size w wr) (fun i _ => l.length + 1 - (intOf i).toNat)
  case atStart => exact ⟨0, rfl, by omega, fun j _ h => by omega, Below.refl _ _⟩
  case round =>
    obtain ⟨k, rfl, hk, hall, hb⟩ := hrel
    have Hall := Lib.hid hall; have Hb := Lib.hid hb; clear hall hb
    by_cases hk1 : k + 1 < l.length
    · have hk0 : k < l.length := by omega
      obtain ⟨py, cy, ey, hry⟩ := HA.out.below Hb.out
      injection ey with ey1 _ ey3
      subst ey1 ey3
      obtain ⟨ay, oy, rfl, haby, y0⟩ := hry.str hk0
      clear hry
      obtain ⟨pz, cz, ez, hrz⟩ := HA.out.below Hb.out
      injection ez with ez1 _ ez3
      subst ez1 ez3
      obtain ⟨az, oz, epz, habz, z0⟩ := hrz.str hk1
      injection epz with epz
      injection epz with epz1 epz2
      subst epz1 epz2
      clear hrz
      have Hcall := Lib.hid (strs_any (l[k]) (l[k + 1]) wr.drew)
      have Hno := Lib.hid (show ¬ ordS l[k] l[k + 1] < 0 → ascL ordS l = false from fun h => by
        rw [Bool.eq_false_iff]; intro h2; exact h (asc_iff.1 h2 k hk1))
      have Hnx := Lib.hid (show ordS l[k] l[k + 1] < 0 → ∀ j (h : j + 1 < l.length), j < k + 1 → ordS (l[j]'(by omega)) l[j + 1] < 0 from fun g j h hjk => by
        rcases Nat.lt_succ_iff_lt_or_eq.1 hjk with g2 | rfl
        · exact Hall.out j h g2
        · exact g)
      generalize l[k] = X at *
      generalize l[k + 1] = Y at *
      by_cases hz : ordS X Y < 0
      · have Hnx2 := Lib.hid (Hnx.out hz)
        have d1 : decide (0 ≤ ordS X Y) = false := by simp; omega
        clear hz
        generalize ordS X Y = c at *
        go_wp2_with (first
          | ((with_reducible refine Lex.at_region ?_); with_reducible refine Lex.wp_region_lex (by kernel_rfl) (by decide +kernel) ?_)
            | ((with_reducible refine Lex.at_fin ?_); with_reducible refine Lex.fin_on (by kernel_rfl) ?_)
          | (go_at_call 122; refine Hcall.out.mono ?_; rintro e w6 ⟨rfl, rfl⟩; have Hb6 := Lib.hid (Hb.out.drew)))
        exact ⟨⟨k + 1, by go_num, by omega, Hnx2.out, Hb6.out⟩, by simp [intOf]; omega⟩
      · have Hf := Lib.hid (Hno.out hz)
        have d1 : decide (0 ≤ ordS X Y) = true := by simp; omega
        clear hz
        generalize ordS X Y = c at *
        go_wp2_with (first
          | ((with_reducible refine Lex.at_region ?_); with_reducible refine Lex.wp_region_lex (by kernel_rfl) (by decide +kernel) ?_)
            | ((with_reducible refine Lex.at_fin ?_); with_reducible refine Lex.fin_on (by kernel_rfl) ?_)
          | (go_at_call 122; refine Hcall.out.mono ?_; rintro e w6 ⟨rfl, rfl⟩; have Hb6 := Lib.hid (Hb.out.drew)))
        go_ret
        rw [Hf.out]
        exact ⟨rfl, Hb6.out⟩
    · have Hy := Lib.hid (show ascL ordS l = true from asc_iff.2 fun j h => Hall.out j h (by omega))
      have d9 : decide (k + 1 < l.length) = false := by simp; omega
      go_wp2
      go_ret
      rw [Hy.out]
      exact ⟨rfl, Hb.out⟩
end Go.Proofs.YtjgldaaofdpcgaaGreat
