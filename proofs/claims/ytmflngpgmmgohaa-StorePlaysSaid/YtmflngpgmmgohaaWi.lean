/-
  Walks: StorePlays.
-/
import Derived.Test.YtmflngpgmmgohaaWh
namespace Go.Proofs.Ytmflngpgmmgohaa
open Go.RowKit Go.Sort Go.Names

theorem start_pack (x : Int) (hx0 : 100 ≤ x) (hx1 : x < 500) (s1 : ByteArray) (hs : s1.size ≤ 40) :
    ∃ (D0 D1 : DM) (R0 R1 : RM) (c0 : Int),
      (∀ w, Calls Try.prog 11 #[.int .i64 x] w fun e w' => e = .returned (.pointer (some ⟨w.heap.size, 0, none⟩)) ∧ w.alloc D0.obj = w') ∧
      (∀ w, Calls Try.prog 17 #[.int .i64 x] w fun e w' => e = .returned (.pointer (some ⟨w.heap.size, 0, none⟩)) ∧ w.alloc R0.obj = w') ∧
      (∀ w b, w.heap[b]? = some D0.obj → Calls Try.prog 12 #[.pointer (some ⟨b, 0, none⟩), .string s1] w fun e w' => e = .returned (.int .i64 c0) ∧ Upd b D1.obj w w') ∧
      (∀ w b, w.heap[b]? = some R0.obj → Calls Try.prog 41 #[.pointer (some ⟨b, 0, none⟩), .string s1] w fun e w' => e = .returned (.int .i64 c0) ∧ Upd b R1.obj w w') ∧
      Rel D1 R1 ∧ D1.cap ≤ 500 ∧ sopenC D1 = 0 := by
  have hrel := rel_new x
  have hN := new_any x
  have hRN := refnew_any x
  have hm : min (max x 0) 16777216 = x := by omega
  rw [hm] at hrel
  simp only [hm] at hN hRN
  obtain ⟨h1, h2⟩ := rel_append hrel s1
  have e1 : ¬ (x - (ByteArray.empty.size : Int) < s1.size) := by simp; omega
  have hD1 : DM.appendD ⟨x, ByteArray.empty, 0, false, 0, 0, false⟩ s1 = ⟨x, ByteArray.empty ++ s1, 0, false, 0, 0, false⟩ := by
    simp only [DM.appendD, DM.strikes, DM.struck]
    rw [if_neg (by decide), if_neg e1]
    simp
  refine ⟨_, _, _, _, _, hN, hRN, fun w b hb => append_any b _ s1 w hrel.okD (by omega) hb, fun w b hb => ?_, h2, by rw [append_cap]; dsimp only; omega, ?_⟩
  · have := refappend_any b _ s1 w hrel.okR (by omega) hb
    rwa [h1] at this
  · rw [hD1]
    unfold sopenC
    split
    · rfl
    · unfold DM.truncC DM.strikes openN
      rw [if_neg (by simp), if_neg (by dsimp only; omega)]
      simp

theorem pick4 (K : ByteArray) (hK : K.size ≤ 20) (n : Nat) (hn : n < 4) :
    ∃ X : ByteArray, #[Value.string ⟨#[97]⟩, .string ⟨#[98]⟩, .string ⟨#[99]⟩, .string K][n]? = some (.string X) ∧ X.size ≤ 20 := by
  match n, hn with
  | 0, _ => exact ⟨_, rfl, by decide⟩
  | 1, _ => exact ⟨_, rfl, by decide⟩
  | 2, _ => exact ⟨_, rfl, by decide⟩
  | 3, _ => exact ⟨_, rfl, hK⟩
/-- A slice of acts that came in. -/
def PlayRow (w : World) (p : Option Addr) (len : Nat) : Prop :=
  ∀ k, k < len → ∃ (ab off : Nat) (d n q : Int) (K D : ByteArray), p = some ⟨ab, off, none⟩ ∧ ab < w.heap.size ∧
    w.cell? ⟨ab, off + k * 5, none⟩ = some (.int .i64 d) ∧ w.cell? ⟨ab, off + k * 5 + 1, none⟩ = some (.int .i64 n) ∧ w.cell? ⟨ab, off + k * 5 + 2, none⟩ = some (.int .i64 q) ∧
    w.cell? ⟨ab, off + k * 5 + 3, none⟩ = some (.string K) ∧ w.cell? ⟨ab, off + k * 5 + 4, none⟩ = some (.string D)

set_option maxRecDepth 100000 in
set_option maxHeartbeats 64000000 in
theorem plays38_walk (s0 : ByteArray) (c : Int) (p : Option Addr) (len cap : Nat) (w : World) (hs0 : s0.size ≤ 9223372036854775807) (hrow : PlayRow w p len) (hlen : len ≤ 9223372036854775807) :
    Calls Try.prog 10 #[.string s0, .int .i64 c, .slice p len cap] w fun e w' => e = .returned (.bool true) ∧ Below w.heap.size w w' := by
  have Hrow := Lib.hid hrow; clear hrow
  obtain ⟨q, hq, hqe⟩ : ∃ q : Nat, q < 400 ∧ wrap64 ((IntKind.u64.wrap c).tmod 400) = (q : Int) := at_mod c 400 (by omega) (by omega)
  have hx : wrap64 (100 + wrap64 ((IntKind.u64.wrap c).tmod 400)) = 100 + (q : Int) := by rw [hqe]; unfold wrap64; omega
  have hz1 : (s0.extract 0 (min (s0.size : Int) 40).toNat).size ≤ 40 := by simp; omega
  obtain ⟨D0, D1, R0, R1, c0, hN, hRN, hA, hRA, hrel, hcap, hso⟩ := start_pack (wrap64 (100 + wrap64 ((IntKind.u64.wrap c).tmod 400))) (by rw [hx]; omega) (by rw [hx]; omega) _ hz1
  clear hx hqe
  obtain ⟨HO, hO1, hO2⟩ := open_ok_pack w.heap.size w.heap.size (w.heap.size + 1) D1 R1 hrel hcap hso
  have f1 : ((w.alloc D0.obj).alloc R0.obj).heap[w.heap.size]? = some D0.obj := (((Below.refl _ (w.alloc D0.obj)).alloc (Nat.le_refl _) _).block _ (by simp)).trans (heap_alloc_new _ _)
  have f2 : ((w.alloc D0.obj).alloc R0.obj).heap[w.heap.size + 1]? = some R0.obj := by have := heap_alloc_new (w.alloc D0.obj) R0.obj; simpa using this
  have hb0 : Below w.heap.size w ((w.alloc D0.obj).alloc R0.obj) := ((Below.refl _ w).alloc (Nat.le_refl _) _).alloc (by simp) _
  have F1 := Lib.hid f1; clear f1
  have F2 := Lib.hid f2; clear f2
  have Hb0 := Lib.hid hb0; clear hb0
  go_enter Try.func10, Try.ntmps10
  go_wp2_with (first
    | ((with_reducible refine at_region ?_); with_reducible refine Lex.wp_region_lex (by kernel_rfl) (by decide +kernel) ?_)
    | ((with_reducible refine at_fin ?_); with_reducible refine Lex.fin_on (by kernel_rfl) ?_)
    | (go_at_call 11; refine (hN _).mono ?_; rintro e w1 ⟨rfl, hw1⟩; subst hw1)
    | (go_at_call 17; refine (hRN _).mono ?_; rintro e w2 ⟨rfl, hw2⟩; subst hw2)
    | (go_at_call 12; refine (hA _ _ F1.out).mono ?_; rintro e w3 ⟨rfl, hu3⟩)
    | (go_at_call 41; refine (hRA _ _ ((hu3.other _ (by omega)).trans F2.out)).mono ?_; rintro e w4 ⟨rfl, hu4⟩; have HPD := Lib.hid (show PD w.heap.size w.heap.size (w.heap.size + 1) D1 R1 w4 from ⟨(hu4.other _ (by omega)).trans hu3.blk, hu4.blk, hrel, hcap, by omega, by omega, by omega⟩); have HB4 := Lib.hid ((Hb0.out.trans (hu3.below (Nat.le_refl _))).trans (hu4.below (Nat.le_succ _))))
    | (go_at_call 34; refine (hO1 _ HPD.out).mono ?_; rintro e w5 ⟨s, rfl, hH5, hb5⟩; have HH5 := Lib.hid hH5; clear hH5)
    | (go_at_call 42; refine (hO2 _ _ HH5.out).mono ?_; rintro e w6 ⟨r, rfl, hPE, hb6⟩; have HPE := Lib.hid hPE; clear hPE; have HB6 := Lib.hid ((HB4.out.trans hb5).trans hb6)))
  clear hN hRN hA hRA hO1 hO2 F1 F2 Hb0 HH5 HPD hu3 hu4 hb5 hb6 HB4 hrel hcap hso hz1
  go_loopw [10, 12, 75] (fun sv rv i wr => ∃ k s r : Nat, i = .int .i64 k ∧ k ≤ len ∧ k ≤ 25 ∧ sv = .pointer (some ⟨s, 0, none⟩) ∧ rv = .pointer (some ⟨r, 0, none⟩) ∧ PE w.heap.size s r w.heap.size (w.heap.size + 1) k wr ∧ Below w.heap.size w wr) (fun _ _ i _ => len - (intOf i).toNat)
  case atStart => exact ⟨0, s, r, rfl, by omega, by omega, rfl, rfl, HPE.out, HB6.out⟩
  clear HPE HB6
  case round =>
    obtain ⟨k, s', r', rfl, hk, hk25, rfl, rfl, hpe, hbw⟩ := hrel
    have Hpe := Lib.hid hpe; clear hpe
    have Hbw := Lib.hid hbw; clear hbw
    by_cases hlt : k < len
    · by_cases h25 : k < 25
      · obtain ⟨ab, off, dv, nv, qv, K, D, rfl, hab, hc0, hc1, hc2, hc3, hc4⟩ := Hrow.out k hlt
        have x0 := (Hbw.out.cell (p := ⟨ab, off + k * 5, none⟩) hab).trans hc0
        have x1 := (Hbw.out.cell (p := ⟨ab, off + k * 5 + 1, none⟩) hab).trans hc1
        have x2 := (Hbw.out.cell (p := ⟨ab, off + k * 5 + 2, none⟩) hab).trans hc2
        have x3 := (Hbw.out.cell (p := ⟨ab, off + k * 5 + 3, none⟩) hab).trans hc3
        have x4 := (Hbw.out.cell (p := ⟨ab, off + k * 5 + 4, none⟩) hab).trans hc4
        clear hc0 hc1 hc2 hc3 hc4
        have hC := fun w => lawcut_any (K, D) w
        have hz := cutK_size (K, D)
        generalize cutK (K, D) = rr at *
        obtain ⟨K', D'⟩ := rr
        dsimp only at hC hz
        obtain ⟨hz1, hz2⟩ := hz
        have hf0 := field44_0 K D
        have hf1 := field44_1 K D
        obtain ⟨t, ht, hte⟩ : ∃ t : Nat, t < 8 ∧ (IntKind.u64.wrap dv).tmod 8 = (t : Int) := by
          rw [wrap_u64]
          have h1 := Int.tmod_lt_of_pos (dv % 18446744073709551616) (show (0 : Int) < 8 by omega)
          have h2 := Int.tmod_nonneg (8 : Int) (show 0 ≤ dv % 18446744073709551616 by omega)
          exact ⟨((dv % 18446744073709551616).tmod 8).toNat, by omega, by omega⟩
        obtain ⟨mb, nn, DD, Dk, L, R, v, hpx0⟩ := Hpe.out
        have Hpx := Lib.hid hpx0; clear hpx0
        by_cases hK0 : 0 < K'.size
        · obtain ⟨X, hX, hXz⟩ := pick4 K' hz1 (K'[0].toNat % 4) (by omega)
          go_upto_region 15 with (go_at_call 25; refine (hC _).mono ?_; rintro e w3 ⟨rfl, hb3⟩)
          have q0 := heap_alloc_new w3 (.cells #[.string K', .string D'] 44)
          have q2 : Below w3.heap.size w3 (w3.alloc (.cells #[.string K', .string D'] 44)) := (Below.refl _ _).alloc (Nat.le_refl _) _
          have qa := heap_alloc_new wr (.cells #[.int .i64 dv, .int .i64 nv, .int .i64 qv, .string K, .string D] 71)
          have hw3 := hb3.size
          have qb4 := (q2.block _ (Nat.lt_of_lt_of_le (heap_lt qa) hw3)).trans ((hb3.block _ (heap_lt qa)).trans qa)
          simp only [World.alloc, Array.size_push] at hw3
          have hbq : Below wr.heap.size wr (w3.alloc (.cells #[.string K', .string D'] 44)) := ((((Below.refl _ wr).alloc (Nat.le_refl _) _).step hb3)).step q2
          generalize w3.alloc (.cells #[.string K', .string D'] 44) = w4 at *
          have y0a : w4.cell? ⟨w3.heap.size, 0, none⟩ = some (.string K') := cell_of_row _ _ _ _ _ _ q0
          have y0b : ∀ o, (w4.alloc o).drew.cell? ⟨w3.heap.size, 0, none⟩ = some (.string K') := fun o => ((((Below.refl _ w4).alloc (Nat.le_refl _) o)).cell (p := ⟨w3.heap.size, 0, none⟩) (heap_lt q0)).trans y0a
          have yz : ∀ o, (w4.alloc o).frozen? ⟨w3.heap.size, 0, none⟩ = false := fun o => by
            have := (((Below.refl _ w4).alloc (Nat.le_refl _) o).block _ (heap_lt q0)).trans q0
            simp [World.frozen?, this]
          have y0 := Lib.hid (show w4.drew.cell? ⟨w3.heap.size, 0, none⟩ = some (.string K') from y0a)
          have Hq0 := Lib.hid q0; clear q0
          have Hqa := Lib.hid qb4; clear qb4 qa
          have Hbq := Lib.hid hbq; clear hbq
          go_upto_region 17 with (first
            | ((with_reducible refine Lex.at_finK ?_); refine LexK.finE_on (by kernel_rfl) (by repeat first | exact LexK.finL_nil | refine LexK.finL_none rfl ?_ | refine LexK.finL_skip (by decide +kernel) ?_ | refine LexK.finL_take rfl rfl y0.out ?_ | refine LexK.finL_unwanted (by kernel_rfl) ?_) ?_)
            | ((with_reducible refine Lex.at_region ?_); with_reducible refine Lex.wp_region_lex (by kernel_rfl) (by decide +kernel) ?_)
            | ((with_reducible refine Lex.at_fin ?_); with_reducible refine Lex.fin_on (by kernel_rfl) ?_)
            | ((with_reducible refine Lex.at_region ?_); refine LexK.wp_region_lexE (fun x => x = w3.heap.size) (by kernel_rfl) (by decide +kernel) ?_)
            | ((with_reducible refine Lex.at_wpX ?_); with_reducible refine LexK.wpX_plain (by decide +kernel) ?_)
            | ((with_reducible refine Lex.at_wpX ?_); with_reducible refine LexK.wpX_call ?_)
            | ((with_reducible refine Lex.at_wpX ?_); with_reducible refine LexK.wpX_nil ?_)
            | ((with_reducible refine Lex.at_ext ?_); with_reducible refine LexK.ext_on (LexK.Ext.alloc _ _) ?_))
          have hal := ((Below.refl _ w4).alloc (Nat.le_refl _) (.cells #[.string ⟨#[97]⟩, .string ⟨#[98]⟩, .string ⟨#[99]⟩, .string K'] 9))
          have hU := Upd.cast (o' := .cells #[.string X, .string D'] 44) (Upd.drew (Upd.set (i := 0) (v := .string X) (Upd.refl ((hal.block _ (heap_lt Hq0.out)).trans Hq0.out)))) (by simp)
          have hb5 : Below wr.heap.size wr _ := (Hbq.out.step hal).trans (hU.below (by omega))
          have qb5 := hU.blk
          have qa5 := (hU.other wr.heap.size (by omega)).trans ((hal.block _ (heap_lt Hqa.out)).trans Hqa.out)
          clear hU hal Hbq Hqa Hq0 y0 y0b yz y0a hX
          generalize ((w4.alloc (.cells #[.string ⟨#[97]⟩, .string ⟨#[98]⟩, .string ⟨#[99]⟩, .string K'] 9)).setCell ⟨w3.heap.size, 0, none⟩ (.string X)).drew = w5 at *
          have e0 : w5.cell? ⟨w3.heap.size, 0, none⟩ = some (.string X) := cell_of_row _ _ _ _ _ _ qb5
          have e1 : w5.cell? ⟨w3.heap.size, 1, none⟩ = some (.string D') := cell_of_row _ _ _ _ _ _ qb5
          have a0 : w5.cell? ⟨wr.heap.size, 0, none⟩ = some (.int .i64 dv) := cell_of_row _ _ _ _ _ _ qa5
          have a1 : w5.cell? ⟨wr.heap.size, 1, none⟩ = some (.int .i64 nv) := cell_of_row _ _ _ _ _ _ qa5
          have a2 : w5.cell? ⟨wr.heap.size, 2, none⟩ = some (.int .i64 qv) := cell_of_row _ _ _ _ _ _ qa5
          have hq5 := heap_lt qb5
          clear qa5
          have Hb5 := Lib.hid (Hbw.out.step hb5)
          have hpx := Hpx.out
          have HPX5 := Lib.hid (hpx.below hb5)
          have hB5 := HPX5.out.B_le
          by_cases h4 : t = 4
          · subst h4
            obtain ⟨x, bb, hg1, hg2⟩ := get_pack2 hpx (by omega) hXz
            go_wp2_with (first
              | (go_at_call 38; refine (hg1 _ HPX5.out).mono ?_; rintro e u6 ⟨rfl, hu6⟩; subst hu6)
              | (go_at_call 43; refine (hg2 _ HPX5.out).mono ?_; rintro e w6 ⟨rfl, hb6⟩; have HPE := Lib.hid (PE.mono (k' := k + 1) ⟨_, _, _, _, _, _, _, HPX5.out.below hb6⟩ (by omega)); have HB := Lib.hid (Hb5.out.step hb6))
              | (go_at_call 48; refine (same_pack HPE.out (by omega)).mono ?_; rintro e w9 ⟨rfl, hb9⟩))
            exact ⟨⟨k + 1, s', r', by go_num, by omega, by omega, rfl, rfl, HPE.out.below hb9, HB.out.step hb9⟩, by simp [intOf]; omega⟩
          by_cases h5 : t = 5
          · subst h5
            obtain ⟨cc, HH, hp1, hp2⟩ := compact_pack2 hpx (by omega)
            go_wp2_with (first
              | (go_at_call 39; refine (hp1 _ HPX5.out).mono ?_; rintro e w6 ⟨rfl, hH6, hb6⟩; have HH6 := Lib.hid hH6; clear hH6)
              | (go_at_call 44; refine (hp2 _ HH6.out).mono ?_; rintro e w7 ⟨rfl, hpe7, hb7⟩; have HPE := Lib.hid hpe7; clear hpe7; have HB := Lib.hid ((Hb5.out.trans hb6).trans (hb7 (Nat.le_trans hB5 hb6.size))))
              | (go_at_call 48; refine (same_pack HPE.out (by omega)).mono ?_; rintro e w9 ⟨rfl, hb9⟩))
            exact ⟨⟨k + 1, s', r', by go_num, by omega, by omega, rfl, rfl, HPE.out.below hb9, HB.out.step hb9⟩, by simp [intOf]; omega⟩
          by_cases h6 : t = 6
          · subst h6
            obtain ⟨HH, hp1, hp2⟩ := arm_pack hpx (wrap64 ((IntKind.u64.wrap nv).tmod 5)) (wrap64 ((IntKind.u64.wrap qv).tmod 60)) (by unfold wrap64; omega) (by unfold wrap64; omega)
            go_wp2_with (first
              | ((with_reducible refine Lex.at_region ?_); with_reducible refine Lex.wp_region_lex (by kernel_rfl) (by decide +kernel) ?_)
              | ((with_reducible refine Lex.at_fin ?_); with_reducible refine Lex.fin_on (by kernel_rfl) ?_)
              | (go_at_call 20; refine (hp1 _ (HPX5.out.below (Below.refl _ w5).drew)).mono ?_; rintro e w6 ⟨rfl, hH6, hb6⟩; have HH6 := Lib.hid hH6; clear hH6)
              | (go_at_call 45; refine (hp2 _ HH6.out).mono ?_; rintro e w7 ⟨rfl, hpe7, hb7⟩; have HPE := Lib.hid hpe7; clear hpe7; have HB := Lib.hid ((Hb5.out.drew.trans hb6).trans hb7))
              | (go_at_call 48; refine (same_pack HPE.out (by omega)).mono ?_; rintro e w9 ⟨rfl, hb9⟩))
            exact ⟨⟨k + 1, s', r', by go_num, by omega, by omega, rfl, rfl, HPE.out.below hb9, HB.out.step hb9⟩, by simp [intOf]; omega⟩
          by_cases h7 : t = 7
          · subst h7
            obtain ⟨HH, Dk', R', hp1, hp2, hrel', hcap'⟩ := restart_pack hpx
            by_cases hso : sopenC Dk' = 0
            · obtain ⟨HO, hO1, hO2⟩ := open_ok_pack w.heap.size w.heap.size (w.heap.size + 1) Dk' R' hrel' hcap' hso
              go_wp2_with (first
                | (go_at_call 21; refine (hp1 _ HPX5.out).mono ?_; rintro e w6 ⟨rfl, hH6, hb6⟩; have HH6 := Lib.hid hH6; clear hH6)
                | (go_at_call 46; refine (hp2 _ HH6.out).mono ?_; rintro e w7 ⟨rfl, hpx7, hb7⟩; have HPX7 := Lib.hid hpx7; clear hpx7)
                | (go_at_call 34; refine (hO1 _ HPX7.out.pd).mono ?_; rintro e w8 ⟨s2, rfl, hH8, hb8⟩; have HH8 := Lib.hid hH8; clear hH8)
                | (go_at_call 42; refine (hO2 _ _ HH8.out).mono ?_; rintro e w10 ⟨r2, rfl, hpe, hb10⟩; have HPE := Lib.hid (hpe.mono (Nat.zero_le (k + 1))); clear hpe; have HB := Lib.hid ((((Hb5.out.trans hb6).trans hb7).trans hb8).trans hb10))
                | (go_at_call 48; refine (same_pack HPE.out (by omega)).mono ?_; rintro e w9 ⟨rfl, hb9⟩))
              exact ⟨⟨k + 1, s2, r2, by go_num, by omega, by omega, rfl, rfl, HPE.out.below hb9, HB.out.step hb9⟩, by simp [intOf]; omega⟩
            · obtain ⟨HO, hO1, hO2⟩ := open_bad_pack (B := w.heap.size) (s := s') (r := r') (db := w.heap.size) (eb := w.heap.size + 1) (mb := mb) (nn := nn) (k := k) (D := DD) (L := L) (v := v) hrel' hcap' hso
              have hso2 : (sopenC Dk' == 0) = false := by simpa using hso
              generalize sopenC Dk' = cc at *
              go_wp2_with (first
                | (go_at_call 21; refine (hp1 _ HPX5.out).mono ?_; rintro e w6 ⟨rfl, hH6, hb6⟩; have HH6 := Lib.hid hH6; clear hH6)
                | (go_at_call 46; refine (hp2 _ HH6.out).mono ?_; rintro e w7 ⟨rfl, hpx7, hb7⟩; have HPX7 := Lib.hid hpx7; clear hpx7)
                | (go_at_call 34; refine (hO1 _ HPX7.out).mono ?_; rintro e w8 ⟨rfl, hH8, hb8⟩; have HH8 := Lib.hid hH8; clear hH8)
                | (go_at_call 42; refine (hO2 _ HH8.out).mono ?_; rintro e w10 ⟨rfl, hpe, hb10⟩; have HPE := Lib.hid hpe; clear hpe; have HB := Lib.hid ((((Hb5.out.trans hb6).trans hb7).trans hb8).trans hb10))
                | (go_at_call 48; refine (same_pack HPE.out (by omega)).mono ?_; rintro e w9 ⟨rfl, hb9⟩))
              exact ⟨⟨k + 1, s', r', by go_num, by omega, by omega, rfl, rfl, HPE.out.below hb9, HB.out.step hb9⟩, by simp [intOf]; omega⟩
          have g4 : ((t : Int) == 4) = false := by simp; omega
          have g5 : ((t : Int) == 5) = false := by simp; omega
          have g6 : ((t : Int) == 6) = false := by simp; omega
          have g7 : ((t : Int) == 7) = false := by simp; omega
          obtain ⟨cc, HH, hp1, hp2, -⟩ := put_pack hpx (by omega) hXz hz2
          have z0 := Lib.hid (show w5.drew.cell? ⟨w3.heap.size, 0, none⟩ = some (.string X) from e0)
          have z1 := Lib.hid (show w5.drew.cell? ⟨w3.heap.size, 1, none⟩ = some (.string D') from e1)
          have l1 := heap_lt hpx.live.st.blk
          have l2 := ownsS_lt hpx.live.st.own
          have l3 := heap_lt hpx.live.dk
          have l4 := heap_lt hpx.ra.blk
          have l5 := heap_lt hpx.ra.dk
          dsimp only at l2 l3
          have Hof1 := Lib.hid (show ∀ x ∈ [s', mb, w.heap.size], ¬ (fun b => b = w3.heap.size) x by simp; omega)
          have Hof2 := Lib.hid (show ∀ x ∈ [r', w.heap.size + 1], ¬ (fun b => b = w3.heap.size) x by simp; omega)
          have Hni := Lib.hid (show w3.heap.size ∉ [s', mb, w.heap.size] by simp; omega)
          go_wp2_with (first
            | ((with_reducible refine Lex.at_finK ?_); refine LexK.finE_on (by kernel_rfl) (by repeat first | exact LexK.finL_nil | refine LexK.finL_none rfl ?_ | refine LexK.finL_skip (by decide +kernel) ?_ | refine LexK.finL_take rfl rfl z0.out ?_ | refine LexK.finL_take rfl rfl z1.out ?_ | refine LexK.finL_unwanted (by kernel_rfl) ?_) ?_)
            | ((with_reducible refine Lex.at_region ?_); with_reducible refine Lex.wp_region_lex (by kernel_rfl) (by decide +kernel) ?_)
            | ((with_reducible refine Lex.at_fin ?_); with_reducible refine Lex.fin_on (by kernel_rfl) ?_)
            | ((with_reducible refine Lex.at_region ?_); refine LexK.wp_region_lexE (fun x => x = w3.heap.size) (by kernel_rfl) (by decide +kernel) ?_)
            | ((with_reducible refine Lex.at_wpX ?_); with_reducible refine LexK.wpX_plain (by decide +kernel) ?_)
            | ((with_reducible refine Lex.at_wpX ?_); with_reducible refine LexK.wpX_call ?_)
            | ((with_reducible refine Lex.at_wpX ?_); with_reducible refine LexK.wpX_nil ?_)
            | ((with_reducible refine Lex.at_ext ?_); with_reducible refine LexK.ext_on (ext_but hb7 Hof2.out) ?_)
            | ((with_reducible refine Lex.at_ext ?_); with_reducible refine LexK.ext_on (ext_but hb6 Hof1.out) ?_)
            | (go_at_call 35; refine (hp1 _ (HPX5.out.below (Below.refl _ w5).drew)).mono ?_; rintro e w6 ⟨rfl, hH6, hb6⟩; have HH6 := Lib.hid hH6; clear hH6; have g0 := (but_cell hb6 hq5 Hni.out).trans z0.out; have g1 := (but_cell hb6 hq5 Hni.out).trans z1.out)
            | (go_at_call 47; refine (hp2 _ HH6.out).mono ?_; rintro e w7 ⟨rfl, hpe7, hb7⟩; have HPE := Lib.hid hpe7; clear hpe7; have HB := Lib.hid ((Hb5.out.drew.trans (hb6.below hB5 (by have := HPX5.out.new; simp; omega))).trans (hb7.below (Nat.le_trans hB5 hb6.size) (by have := HPX5.out.new; simp; omega))))
            | (go_at_call 48; refine (same_pack HPE.out (by omega)).mono ?_; rintro e w9 ⟨rfl, hb9⟩))
          exact ⟨⟨k + 1, s', r', by go_num, by omega, by omega, rfl, rfl, HPE.out.below hb9, HB.out.step hb9⟩, by simp [intOf]; omega⟩
        · have hK1 : K'.size = 0 := by omega
          go_upto_region 15 with (go_at_call 25; refine (hC _).mono ?_; rintro e w3 ⟨rfl, hb3⟩)
          have q0 := heap_alloc_new w3 (.cells #[.string K', .string D'] 44)
          have q2 : Below w3.heap.size w3 (w3.alloc (.cells #[.string K', .string D'] 44)) := (Below.refl _ _).alloc (Nat.le_refl _) _
          have qa := heap_alloc_new wr (.cells #[.int .i64 dv, .int .i64 nv, .int .i64 qv, .string K, .string D] 71)
          have hw3 := hb3.size
          have qb4 := (q2.block _ (Nat.lt_of_lt_of_le (heap_lt qa) hw3)).trans ((hb3.block _ (heap_lt qa)).trans qa)
          simp only [World.alloc, Array.size_push] at hw3
          have hbq : Below wr.heap.size wr (w3.alloc (.cells #[.string K', .string D'] 44)) := ((((Below.refl _ wr).alloc (Nat.le_refl _) _).step hb3)).step q2
          generalize w3.alloc (.cells #[.string K', .string D'] 44) = w4 at *
          have y0a : w4.cell? ⟨w3.heap.size, 0, none⟩ = some (.string K') := cell_of_row _ _ _ _ _ _ q0
          go_upto_region 17 with fail
          obtain ⟨X, hXe⟩ : ∃ x, x = K' := ⟨_, rfl⟩
          subst hXe
          obtain ⟨w5, hw5⟩ : ∃ x, x = w4 := ⟨_, rfl⟩
          subst hw5
          have hb5 := hbq
          have qb5 := q0
          have qa5 := qb4
          have hXz := hz1
          clear hbq q0 qb4 qa y0a
          have e0 : w5.cell? ⟨w3.heap.size, 0, none⟩ = some (.string X) := cell_of_row _ _ _ _ _ _ qb5
          have e1 : w5.cell? ⟨w3.heap.size, 1, none⟩ = some (.string D') := cell_of_row _ _ _ _ _ _ qb5
          have a0 : w5.cell? ⟨wr.heap.size, 0, none⟩ = some (.int .i64 dv) := cell_of_row _ _ _ _ _ _ qa5
          have a1 : w5.cell? ⟨wr.heap.size, 1, none⟩ = some (.int .i64 nv) := cell_of_row _ _ _ _ _ _ qa5
          have a2 : w5.cell? ⟨wr.heap.size, 2, none⟩ = some (.int .i64 qv) := cell_of_row _ _ _ _ _ _ qa5
          have hq5 := heap_lt qb5
          clear qa5
          have Hb5 := Lib.hid (Hbw.out.step hb5)
          have hpx := Hpx.out
          have HPX5 := Lib.hid (hpx.below hb5)
          have hB5 := HPX5.out.B_le
          by_cases h4 : t = 4
          · subst h4
            obtain ⟨x, bb, hg1, hg2⟩ := get_pack2 hpx (by omega) hXz
            go_wp2_with (first
              | (go_at_call 38; refine (hg1 _ HPX5.out).mono ?_; rintro e u6 ⟨rfl, hu6⟩; subst hu6)
              | (go_at_call 43; refine (hg2 _ HPX5.out).mono ?_; rintro e w6 ⟨rfl, hb6⟩; have HPE := Lib.hid (PE.mono (k' := k + 1) ⟨_, _, _, _, _, _, _, HPX5.out.below hb6⟩ (by omega)); have HB := Lib.hid (Hb5.out.step hb6))
              | (go_at_call 48; refine (same_pack HPE.out (by omega)).mono ?_; rintro e w9 ⟨rfl, hb9⟩))
            exact ⟨⟨k + 1, s', r', by go_num, by omega, by omega, rfl, rfl, HPE.out.below hb9, HB.out.step hb9⟩, by simp [intOf]; omega⟩
          by_cases h5 : t = 5
          · subst h5
            obtain ⟨cc, HH, hp1, hp2⟩ := compact_pack2 hpx (by omega)
            go_wp2_with (first
              | (go_at_call 39; refine (hp1 _ HPX5.out).mono ?_; rintro e w6 ⟨rfl, hH6, hb6⟩; have HH6 := Lib.hid hH6; clear hH6)
              | (go_at_call 44; refine (hp2 _ HH6.out).mono ?_; rintro e w7 ⟨rfl, hpe7, hb7⟩; have HPE := Lib.hid hpe7; clear hpe7; have HB := Lib.hid ((Hb5.out.trans hb6).trans (hb7 (Nat.le_trans hB5 hb6.size))))
              | (go_at_call 48; refine (same_pack HPE.out (by omega)).mono ?_; rintro e w9 ⟨rfl, hb9⟩))
            exact ⟨⟨k + 1, s', r', by go_num, by omega, by omega, rfl, rfl, HPE.out.below hb9, HB.out.step hb9⟩, by simp [intOf]; omega⟩
          by_cases h6 : t = 6
          · subst h6
            obtain ⟨HH, hp1, hp2⟩ := arm_pack hpx (wrap64 ((IntKind.u64.wrap nv).tmod 5)) (wrap64 ((IntKind.u64.wrap qv).tmod 60)) (by unfold wrap64; omega) (by unfold wrap64; omega)
            go_wp2_with (first
              | ((with_reducible refine Lex.at_region ?_); with_reducible refine Lex.wp_region_lex (by kernel_rfl) (by decide +kernel) ?_)
              | ((with_reducible refine Lex.at_fin ?_); with_reducible refine Lex.fin_on (by kernel_rfl) ?_)
              | (go_at_call 20; refine (hp1 _ (HPX5.out.below (Below.refl _ w5).drew)).mono ?_; rintro e w6 ⟨rfl, hH6, hb6⟩; have HH6 := Lib.hid hH6; clear hH6)
              | (go_at_call 45; refine (hp2 _ HH6.out).mono ?_; rintro e w7 ⟨rfl, hpe7, hb7⟩; have HPE := Lib.hid hpe7; clear hpe7; have HB := Lib.hid ((Hb5.out.drew.trans hb6).trans hb7))
              | (go_at_call 48; refine (same_pack HPE.out (by omega)).mono ?_; rintro e w9 ⟨rfl, hb9⟩))
            exact ⟨⟨k + 1, s', r', by go_num, by omega, by omega, rfl, rfl, HPE.out.below hb9, HB.out.step hb9⟩, by simp [intOf]; omega⟩
          by_cases h7 : t = 7
          · subst h7
            obtain ⟨HH, Dk', R', hp1, hp2, hrel', hcap'⟩ := restart_pack hpx
            by_cases hso : sopenC Dk' = 0
            · obtain ⟨HO, hO1, hO2⟩ := open_ok_pack w.heap.size w.heap.size (w.heap.size + 1) Dk' R' hrel' hcap' hso
              go_wp2_with (first
                | (go_at_call 21; refine (hp1 _ HPX5.out).mono ?_; rintro e w6 ⟨rfl, hH6, hb6⟩; have HH6 := Lib.hid hH6; clear hH6)
                | (go_at_call 46; refine (hp2 _ HH6.out).mono ?_; rintro e w7 ⟨rfl, hpx7, hb7⟩; have HPX7 := Lib.hid hpx7; clear hpx7)
                | (go_at_call 34; refine (hO1 _ HPX7.out.pd).mono ?_; rintro e w8 ⟨s2, rfl, hH8, hb8⟩; have HH8 := Lib.hid hH8; clear hH8)
                | (go_at_call 42; refine (hO2 _ _ HH8.out).mono ?_; rintro e w10 ⟨r2, rfl, hpe, hb10⟩; have HPE := Lib.hid (hpe.mono (Nat.zero_le (k + 1))); clear hpe; have HB := Lib.hid ((((Hb5.out.trans hb6).trans hb7).trans hb8).trans hb10))
                | (go_at_call 48; refine (same_pack HPE.out (by omega)).mono ?_; rintro e w9 ⟨rfl, hb9⟩))
              exact ⟨⟨k + 1, s2, r2, by go_num, by omega, by omega, rfl, rfl, HPE.out.below hb9, HB.out.step hb9⟩, by simp [intOf]; omega⟩
            · obtain ⟨HO, hO1, hO2⟩ := open_bad_pack (B := w.heap.size) (s := s') (r := r') (db := w.heap.size) (eb := w.heap.size + 1) (mb := mb) (nn := nn) (k := k) (D := DD) (L := L) (v := v) hrel' hcap' hso
              have hso2 : (sopenC Dk' == 0) = false := by simpa using hso
              generalize sopenC Dk' = cc at *
              go_wp2_with (first
                | (go_at_call 21; refine (hp1 _ HPX5.out).mono ?_; rintro e w6 ⟨rfl, hH6, hb6⟩; have HH6 := Lib.hid hH6; clear hH6)
                | (go_at_call 46; refine (hp2 _ HH6.out).mono ?_; rintro e w7 ⟨rfl, hpx7, hb7⟩; have HPX7 := Lib.hid hpx7; clear hpx7)
                | (go_at_call 34; refine (hO1 _ HPX7.out).mono ?_; rintro e w8 ⟨rfl, hH8, hb8⟩; have HH8 := Lib.hid hH8; clear hH8)
                | (go_at_call 42; refine (hO2 _ HH8.out).mono ?_; rintro e w10 ⟨rfl, hpe, hb10⟩; have HPE := Lib.hid hpe; clear hpe; have HB := Lib.hid ((((Hb5.out.trans hb6).trans hb7).trans hb8).trans hb10))
                | (go_at_call 48; refine (same_pack HPE.out (by omega)).mono ?_; rintro e w9 ⟨rfl, hb9⟩))
              exact ⟨⟨k + 1, s', r', by go_num, by omega, by omega, rfl, rfl, HPE.out.below hb9, HB.out.step hb9⟩, by simp [intOf]; omega⟩
          have g4 : ((t : Int) == 4) = false := by simp; omega
          have g5 : ((t : Int) == 5) = false := by simp; omega
          have g6 : ((t : Int) == 6) = false := by simp; omega
          have g7 : ((t : Int) == 7) = false := by simp; omega
          obtain ⟨cc, HH, hp1, hp2, -⟩ := put_pack hpx (by omega) hXz hz2
          have z0 := Lib.hid (show w5.drew.cell? ⟨w3.heap.size, 0, none⟩ = some (.string X) from e0)
          have z1 := Lib.hid (show w5.drew.cell? ⟨w3.heap.size, 1, none⟩ = some (.string D') from e1)
          have l1 := heap_lt hpx.live.st.blk
          have l2 := ownsS_lt hpx.live.st.own
          have l3 := heap_lt hpx.live.dk
          have l4 := heap_lt hpx.ra.blk
          have l5 := heap_lt hpx.ra.dk
          dsimp only at l2 l3
          have Hof1 := Lib.hid (show ∀ x ∈ [s', mb, w.heap.size], ¬ (fun b => b = w3.heap.size) x by simp; omega)
          have Hof2 := Lib.hid (show ∀ x ∈ [r', w.heap.size + 1], ¬ (fun b => b = w3.heap.size) x by simp; omega)
          have Hni := Lib.hid (show w3.heap.size ∉ [s', mb, w.heap.size] by simp; omega)
          go_wp2_with (first
            | ((with_reducible refine Lex.at_finK ?_); refine LexK.finE_on (by kernel_rfl) (by repeat first | exact LexK.finL_nil | refine LexK.finL_none rfl ?_ | refine LexK.finL_skip (by decide +kernel) ?_ | refine LexK.finL_take rfl rfl z0.out ?_ | refine LexK.finL_take rfl rfl z1.out ?_ | refine LexK.finL_unwanted (by kernel_rfl) ?_) ?_)
            | ((with_reducible refine Lex.at_region ?_); with_reducible refine Lex.wp_region_lex (by kernel_rfl) (by decide +kernel) ?_)
            | ((with_reducible refine Lex.at_fin ?_); with_reducible refine Lex.fin_on (by kernel_rfl) ?_)
            | ((with_reducible refine Lex.at_region ?_); refine LexK.wp_region_lexE (fun x => x = w3.heap.size) (by kernel_rfl) (by decide +kernel) ?_)
            | ((with_reducible refine Lex.at_wpX ?_); with_reducible refine LexK.wpX_plain (by decide +kernel) ?_)
            | ((with_reducible refine Lex.at_wpX ?_); with_reducible refine LexK.wpX_call ?_)
            | ((with_reducible refine Lex.at_wpX ?_); with_reducible refine LexK.wpX_nil ?_)
            | ((with_reducible refine Lex.at_ext ?_); with_reducible refine LexK.ext_on (ext_but hb7 Hof2.out) ?_)
            | ((with_reducible refine Lex.at_ext ?_); with_reducible refine LexK.ext_on (ext_but hb6 Hof1.out) ?_)
            | (go_at_call 35; refine (hp1 _ (HPX5.out.below (Below.refl _ w5).drew)).mono ?_; rintro e w6 ⟨rfl, hH6, hb6⟩; have HH6 := Lib.hid hH6; clear hH6; have g0 := (but_cell hb6 hq5 Hni.out).trans z0.out; have g1 := (but_cell hb6 hq5 Hni.out).trans z1.out)
            | (go_at_call 47; refine (hp2 _ HH6.out).mono ?_; rintro e w7 ⟨rfl, hpe7, hb7⟩; have HPE := Lib.hid hpe7; clear hpe7; have HB := Lib.hid ((Hb5.out.drew.trans (hb6.below hB5 (by have := HPX5.out.new; simp; omega))).trans (hb7.below (Nat.le_trans hB5 hb6.size) (by have := HPX5.out.new; simp; omega))))
            | (go_at_call 48; refine (same_pack HPE.out (by omega)).mono ?_; rintro e w9 ⟨rfl, hb9⟩))
          exact ⟨⟨k + 1, s', r', by go_num, by omega, by omega, rfl, rfl, HPE.out.below hb9, HB.out.step hb9⟩, by simp [intOf]; omega⟩
      · obtain rfl : k = 25 := by omega
        obtain ⟨ab, off, dv, nv, qv, K, D, rfl, hab, hc0, hc1, hc2, hc3, hc4⟩ := Hrow.out 25 hlt
        have x0 := (Hbw.out.cell (p := ⟨ab, off + 25 * 5, none⟩) hab).trans hc0
        have x1 := (Hbw.out.cell (p := ⟨ab, off + 25 * 5 + 1, none⟩) hab).trans hc1
        have x2 := (Hbw.out.cell (p := ⟨ab, off + 25 * 5 + 2, none⟩) hab).trans hc2
        have x3 := (Hbw.out.cell (p := ⟨ab, off + 25 * 5 + 3, none⟩) hab).trans hc3
        have x4 := (Hbw.out.cell (p := ⟨ab, off + 25 * 5 + 4, none⟩) hab).trans hc4
        clear hc0 hc1 hc2 hc3 hc4
        go_wp2_with (first
          | (go_at_call 29; refine (awake_any _).mono ?_; rintro e w13 ⟨rfl, hb13⟩))
        go_ret
        exact ⟨rfl, (Hbw.out.alloc Hbw.out.size _).step hb13⟩
    · obtain rfl : k = len := by omega
      go_wp2_with (first
        | (go_at_call 29; refine (awake_any _).mono ?_; rintro e w13 ⟨rfl, hb13⟩))
      go_ret
      exact ⟨rfl, Hbw.out.step hb13⟩
end Go.Proofs.Ytmflngpgmmgohaa
