/-
  Walks: StoreReads.
-/
import Derived.Test.YtmflngpgmmgohaaTf
import Derived.Test.YtmflngpgmmgohaaSr
import Derived.Deep.DeepCutAuto
namespace Go.Proofs.Ytmflngpgmmgohaa
open Go.RowKit

/-- The records that came in. -/
def RecsRow (w : World) (p : Option Addr) (len : Nat) : Prop :=
  ∀ i, i < len → ∃ (ab off : Nat) (k d : ByteArray), p = some ⟨ab, off, none⟩ ∧ ab < w.heap.size ∧ w.cell? ⟨ab, off + i * 2, none⟩ = some (.string k) ∧ w.cell? ⟨ab, off + i * 2 + 1, none⟩ = some (.string d)

theorem field44_0 (K D : ByteArray) (w : World) : (Instr.field 44 (.agg #[.string K, .string D]) 0).run Try.prog w = .ok (.string K) w := by kernel_rfl
theorem field44_1 (K D : ByteArray) (w : World) : (Instr.field 44 (.agg #[.string K, .string D]) 1).run Try.prog w = .ok (.string D) w := by kernel_rfl
theorem cutK_size (r : Rec) : (cutK r).1.size ≤ 20 ∧ (cutK r).2.size ≤ 30 := ⟨cutS_size _ _, cutS_size _ _⟩
theorem alloc_cells {w : World} {k d : ByteArray} : ∀ w', Lex.Ext (w.alloc (.cells #[.string k, .string d] 44)) w' → w'.cell? ⟨w.heap.size, 0, none⟩ = some (.string k) ∧ w'.cell? ⟨w.heap.size, 1, none⟩ = some (.string d) := by
  intro w' hx
  have hg := heap_alloc_new w (.cells #[.string k, .string d] 44)
  have d0 : (w.alloc (.cells #[.string k, .string d] 44)).cell? ⟨w.heap.size, 0, none⟩ = some (.string k) := cell_of_row _ _ _ _ _ _ hg
  have d1 : (w.alloc (.cells #[.string k, .string d] 44)).cell? ⟨w.heap.size, 1, none⟩ = some (.string d) := cell_of_row _ _ _ _ _ _ hg
  exact ⟨(hx.cell d0 ⟨w.heap.size, 0, none⟩ rfl).trans d0, (hx.cell d1 ⟨w.heap.size, 1, none⟩ rfl).trans d1⟩

theorem conv1 (w1 : World) (c : Int) (hc : 0 ≤ c ∧ c < 256) : (convert 51 9 (Value.slice (some ⟨w1.heap.size, 0, none⟩) 1 1)).run Try.prog (w1.alloc (Obj.cells #[Value.int IntKind.u8 c] 5)).drew =
    .ok (.string ⟨#[UInt8.ofNat c.toNat]⟩) (w1.alloc (Obj.cells #[Value.int IntKind.u8 c] 5)).drew := by
  have := run_convert_bytes_back (P := Try.prog) (w1.alloc (Obj.cells #[Value.int IntKind.u8 c] 5)).drew 51 9 5 ⟨w1.heap.size, 0, none⟩ 1 [UInt8.ofNat c.toNat] (by kernel_rfl) (by kernel_rfl) (by kernel_rfl) (by
    refine Lib.bytes_of_row (heap_alloc_new _ _) ?_
    have e0 : ((UInt8.ofNat c.toNat).toNat : Int) = c := by rw [toNat_ofNat (by omega)]; omega
    simp only [Lib.byteCells, List.map_cons, List.map_nil]
    rw [e0]
    rfl)
  exact this
theorem refreads_val (s : ByteArray) (hs : s.size ≤ 1048576) (w : World) :
    Calls Try.prog 32 #[.string s] w fun e w' => ∃ (p : Option Addr) (cap : Nat), e = .returned (.tuple #[.slice p (readV s).1.length cap, .int .i64 ((s.size : Int) - (readV s).2.size)]) ∧ w'.ownsRow w.heap.size 44 2 (.slice p (readV s).1.length cap) (readV s).1.length (recCells (readV s).1) ∧ Below w.heap.size w w' := by
  refine (refread_any s hs w).mono ?_
  rintro e w' ⟨v, l, q, rfl, h0, h1, h2, h3, h4⟩
  rw [readV_of h1 h2]
  obtain ⟨p, cap, rfl⟩ := own_slice h3
  have e1 : ((s.size : Int) - (s.extract q s.size).size) = (q : Int) := by rw [rest_size h0]; omega
  dsimp only
  rw [e1]
  exact ⟨p, cap, rfl, h3, h4⟩
theorem at_mod (a : Int) (n : Nat) (hn : 0 < n) (h : n ≤ 1048576) : ∃ q : Nat, q < n ∧ wrap64 ((IntKind.u64.wrap a).tmod n) = (q : Int) := by
  rw [wrap_u64]
  have h0 : 0 ≤ a % 18446744073709551616 := by omega
  refine ⟨((a % 18446744073709551616).tmod n).toNat, ?_, ?_⟩
  · have h1 := Int.tmod_lt_of_pos (a % 18446744073709551616) (show (0 : Int) < n by omega)
    have h2 := Int.tmod_nonneg (n : Int) h0
    omega
  · have h1 := Int.tmod_lt_of_pos (a % 18446744073709551616) (show (0 : Int) < n by omega)
    have h2 := Int.tmod_nonneg (n : Int) h0
    unfold wrap64
    omega
set_option maxRecDepth 100000 in
set_option maxHeartbeats 16000000 in
theorem reads_walk (p : Option Addr) (len cap : Nat) (at' how c : Int) (raw : ByteArray) (w : World) (hrow : RecsRow w p len) (hlen : len ≤ 9223372036854775807) (hraw : raw.size ≤ 9223372036854775807) (hc : 0 ≤ c ∧ c < 256) :
    Calls Try.prog 7 #[.slice p len cap, .int .i64 at', .int .i64 how, .int .u8 c, .string raw] w fun e w' => e = .returned (.bool true) ∧ Below w.heap.size w w' := by
  have Hrow := Lib.hid hrow; clear hrow
  go_enter Try.func7, Try.ntmps7
  go_wp2
  go_loopw [11, 24] (fun s i wr => ∃ (k : Nat) (S : ByteArray), i = .int .i64 k ∧ s = .string S ∧ k ≤ len ∧ (k ≤ 5 → S.size ≤ 64 * k) ∧ S.size ≤ 320 ∧ Below w.heap.size w wr) (fun _ i _ => len - (intOf i).toNat)
  case atStart => exact ⟨0, ⟨#[]⟩, rfl, rfl, by omega, fun _ => by decide, by decide, Below.refl _ _⟩
  case round =>
    obtain ⟨k, S, rfl, rfl, hk, hS5, hS, hbl⟩ := hrel
    have Hbl := Lib.hid hbl; clear hbl
    by_cases hlt : k < len
    · obtain ⟨ab, off, K, D, rfl, hab, hc0, hc1⟩ := Hrow.out k hlt
      have x0 := (Hbl.out.cell hab).trans hc0
      have x1 := (Hbl.out.cell hab).trans hc1
      clear hc0 hc1
      by_cases h5 : k < 5
      · have hC := fun w => lawcut_any (K, D) w
        have hz := cutK_size (K, D)
        generalize (cutK (K, D)).1 = K' at *
        generalize (cutK (K, D)).2 = D' at *
        have hF := fun w => refframe_any K' D' (by omega) (by omega) w
        have hf0 := field44_0 K' D'
        have hf1 := field44_1 K' D'
        have hfz := frameB_small (k := K') (d := D') (by omega) (by omega)
        generalize frameB K' D' = fr at *
        go_wp2_with (first
          | (with_reducible refine Lex.finE_on (by kernel_rfl) (by repeat first | exact Lex.finL_nil | refine Lex.finL_none rfl ?_ | refine Lex.finL_skip (by decide +kernel) ?_ | refine Lex.finL_take rfl z0 ?_) ?_)
          | (with_reducible refine Lex.wp_region_lex (by kernel_rfl) (by decide +kernel) ?_)
          | (with_reducible refine Lex.fin_on (by kernel_rfl) ?_)
          | (with_reducible refine Lex.wp_region_lexE (by kernel_rfl) (by decide +kernel) ?_; have hX := Lib.hid (alloc_cells (w := wr) (k := K) (d := D)); obtain ⟨z0, z1⟩ := hX.out (wr.alloc (.cells #[.string K, .string D] 44)).drew (Lex.Ext.refl _))
          | (with_reducible refine Lex.wpX_plain (by decide +kernel) ?_)
          | (with_reducible refine Lex.wpX_call ?_)
          | (with_reducible refine Lex.wpX_nil ?_)
          | (with_reducible refine Lex.ext_on (Lex.Ext.of_below hb1 (Nat.le_refl _)) ?_)
          | (with_reducible refine Lex.ext_on (Lex.Ext.of_below hb2 (Nat.le_refl _)) ?_)
          | (with_reducible refine Lex.ext_on (Lex.Ext.of_below hb3 (Nat.le_refl _)) ?_)
          | (go_at_call 25; first
              | (refine (hC _).mono ?_; rintro e w2 ⟨rfl, hb2⟩; have hx2 := hx1.trans (Lex.Ext.of_below hb2 (Nat.le_refl _)))
              | (refine (hC _).mono ?_; rintro e w1 ⟨rfl, hb1⟩; have hx1 := Lex.Ext.of_below hb1 (Nat.le_refl _); obtain ⟨y0, y1⟩ := hX.out _ hx1))
          | (go_at_call 28; refine (hF _).mono ?_; rintro e w3 ⟨rfl, hb3⟩))
        have hB := ((((Hbl.out.alloc Hbl.out.size (.cells #[.string K, .string D] 44)).drew).step hb1).step hb2).step hb3
        exact ⟨⟨k + 1, S ++ fr, by go_num, rfl, by omega, fun _ => by rw [ByteArray.size_append]; omega, by rw [ByteArray.size_append]; omega, hB⟩, by simp [intOf]; omega⟩
      · go_wp2_with (first
          | (with_reducible refine Lex.wp_region_lex (by kernel_rfl) (by decide +kernel) ?_)
          | (with_reducible refine Lex.fin_on (by kernel_rfl) ?_))
        exact ⟨⟨k + 1, S, by go_num, rfl, by omega, fun _ => by omega, hS, Hbl.out.alloc Hbl.out.size _⟩, by simp [intOf]; omega⟩
    · have hB0 : Below w.heap.size w wr := Hbl.out
      clear Hbl hS5 Hrow
      go_upto_region 8 with fail
      go_cut [4] from 41 (fun s4 wx => ∃ R : ByteArray, s4 = .string R ∧ R.size ≤ 40 ∧ wx = wr)
      case first =>
        by_cases h40 : raw.size ≤ 40
        · go_wp2
          go_meet
          exact ⟨raw, rfl, h40, rfl⟩
        · go_wp2
          go_meet
          exact ⟨_, rfl, by simp; omega, rfl⟩
      case rest =>
      obtain ⟨R, rfl, hR, rfl⟩ := hcut
      go_upto_if 49 with fail
      go_cut [14, 15] from 50 (fun s14 s15 wx => ∃ T : ByteArray, s14 = .string T ∧ T.size ≤ 321 ∧ Below w.heap.size w wx)
      case first =>
        by_cases hS0 : 0 < S.size
        · obtain ⟨q, hq, hqe⟩ := at_mod at' S.size hS0 (by omega)
          have hcv := conv1 wc c hc
          go_wp2_with (first
            | (with_reducible refine Lex.wp_region_lex (by kernel_rfl) (by decide +kernel) ?_)
            | (with_reducible refine Lex.fin_on (by kernel_rfl) ?_))
          all_goals go_meet
          · exact ⟨_, rfl, by simp; omega, hB0⟩
          · refine ⟨_, rfl, ?_, (hB0.alloc hB0.size _).drew⟩
            have e1 : (ByteArray.mk #[UInt8.ofNat c.toNat]).size = 1 := rfl
            simp only [ByteArray.size_append, e1, ByteArray.size_extract]
            omega
        · go_wp2
          go_meet
          exact ⟨S, rfl, by omega, hB0⟩
      case rest =>
      obtain ⟨T, rfl, hT, hB1⟩ := hcut
      clear hB0
      have hz4 := sealB_size R
      have hz5 := textB_le (s := sealB R) (by omega)
      have hSe := fun w => refseal_any R (by omega) w
      have hTe := fun w => text_any (sealB R) (by omega) w
      have hz0 : (S ++ R).size ≤ 1048576 := by rw [ByteArray.size_append]; omega
      have hz2 : (T ++ R).size ≤ 1048576 := by rw [ByteArray.size_append]; omega
      have hz6 : (textB (sealB R) ++ R).size ≤ 1048576 := by rw [ByteArray.size_append]; omega
      have hz1 : T.size ≤ 1048576 := by omega
      have hz3 : R.size ≤ 1048576 := by omega
      generalize textB (sealB R) = X at *
      generalize sealB R = Y at *
      have HB1 := Lib.hid hB1; clear hB1
      go_wp2_with (first
        | (with_reducible refine Lex.wp_region_lex (by kernel_rfl) (by decide +kernel) ?_)
        | (with_reducible refine Lex.fin_on (by kernel_rfl) ?_)
        | (go_at_call 31; refine (hSe _).mono ?_; rintro e w2 ⟨rfl, hb2⟩)
        | (go_at_call 30; refine (hTe _).mono ?_; rintro e w3 ⟨rfl, hb3⟩))
      have HB3 := Lib.hid ((HB1.out.step hb2).step hb3)
      clear hb2 hb3
      have hrw := heap_alloc_new w3 (.cells #[.string (S ++ R), .string T, .string (T ++ R), .string R, .string (X ++ R)] 9)
      generalize hwL : w3.alloc (.cells #[.string (S ++ R), .string T, .string (T ++ R), .string R, .string (X ++ R)] 9) = wL at *
      have hwB : Below w.heap.size w wL := by rw [← hwL]; exact HB3.out.alloc HB3.out.size _
      have hlt3 : w3.heap.size < wL.heap.size := by rw [← hwL]; simp
      have hat : ∀ j, j < 5 → ∃ x : ByteArray, wL.cell? ⟨w3.heap.size, j, none⟩ = some (.string x) ∧ x.size ≤ 1048576 := by
        intro j hj
        have hc0 : ∀ j, wL.cell? ⟨w3.heap.size, j, none⟩ = (#[Value.string (S ++ R), .string T, .string (T ++ R), .string R, .string (X ++ R)] : Array Value)[j]? := fun j => cell_of_row _ _ _ _ _ _ hrw
        match j, hj with
        | 0, _ => exact ⟨_, hc0 0, hz0⟩
        | 1, _ => exact ⟨_, hc0 1, hz1⟩
        | 2, _ => exact ⟨_, hc0 2, hz2⟩
        | 3, _ => exact ⟨_, hc0 3, hz3⟩
        | 4, _ => exact ⟨_, hc0 4, hz6⟩
      clear hrw
      go_loopw [90] (fun i wr => ∃ k : Nat, i = .int .i64 k ∧ k ≤ 5 ∧ Below wL.heap.size wL wr) (fun i _ => 5 - (intOf i).toNat)
      case atStart => exact ⟨0, rfl, by omega, Below.refl _ _⟩
      case round =>
        obtain ⟨j, rfl, hj, hbl⟩ := hrel
        have Hbl := Lib.hid hbl; clear hbl
        by_cases hlt : j < 5
        · obtain ⟨x, hx, hxz⟩ := hat j hlt
          have hx' := (Hbl.out.cell hlt3).trans hx
          have hR := fun w => reads_val x hxz w
          have hM := fun w => refreads_val x hxz w
          have hL1 : (readV x).1.length ≤ 1048576 := by have := readV_le (s := x); omega
          generalize ((x.size : Int) - (readV x).2.size) = n at *
          generalize (readV x).1 = L at *
          have hSm : ∀ (B1 B2 : Nat) (v1 v2 : Value) (w : World), w.ownsRow B1 44 2 v1 L.length (recCells L) → w.ownsRow B2 44 2 v2 L.length (recCells L) → Calls Try.prog 33 #[v1, v2] w fun e w' => e = .returned (.bool true) ∧ Below w.heap.size w w' := by
            intro B1 B2 v1 v2 w h1 h2
            have := sameRecs_any B1 B2 v1 v2 L L w h1 h2 hL1 hL1
            rw [show decide (L = L) = true by simp] at this
            exact this
          go_wp2_with (first
            | (with_reducible refine Lex.wp_region_lex (by kernel_rfl) (by decide +kernel) ?_)
            | (with_reducible refine Lex.fin_on (by kernel_rfl) ?_)
            | (go_at_call 26; refine (hR _).mono ?_; rintro e w4 ⟨p4, c4, rfl, ho4, hb4⟩; have Ho4 := Lib.hid ho4; clear ho4)
            | (go_at_call 32; refine (hM _).mono ?_; rintro e w5 ⟨p5, c5, rfl, ho5, hb5⟩; have Ho5 := Lib.hid ho5; clear ho5)
            | (go_at_call 33; refine (hSm _ _ _ _ _ (ownsRow_below Ho4.out hb5 (Nat.le_refl _)) Ho5.out).mono ?_; rintro e w6 ⟨rfl, hb6⟩))
          exact ⟨⟨j + 1, by go_num, by omega, ((Hbl.out.step hb4).step hb5).step hb6⟩, by simp [intOf]; omega⟩
        · go_wp2_with (first
            | (with_reducible refine Lex.wp_region_lex (by kernel_rfl) (by decide +kernel) ?_)
            | (with_reducible refine Lex.fin_on (by kernel_rfl) ?_)
            | (go_at_call 29; refine (awake_any _).mono ?_; rintro e w7 ⟨rfl, hb7⟩))
          go_ret
          exact ⟨rfl, (hwB.step Hbl.out).step hb7⟩
end Go.Proofs.Ytmflngpgmmgohaa
