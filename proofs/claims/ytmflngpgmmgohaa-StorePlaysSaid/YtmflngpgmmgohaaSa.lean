/-
  Walks of the store's helpers: integers, check sums.
-/
import Derived.Test.YtmflngpgmmgohaaDisk
import Derived.Test.YtmflngpgmmgohaaLexE
import Derived.Test.YtmflngpgmmgohaaCrc
import Derived.Lib.BufSteps
import Derived.Lib.UnsafeStr
import Derived.Laws.IdiomStrings
import Derived.Lib.BufferRead
import Derived.OwnWalk
import Derived.Laws.Rows
namespace Go.Proofs.Ytmflngpgmmgohaa
open Go.RowKit

theorem u8_info : (Try.prog.info? 5).map (fun i => (i.zero, i.size, i.bytes)) = some (some (.int .u8 0), 1, 1) := by kernel_rfl

theorem conv_own {B n : Nat} {v : Value} {l : List UInt8} {W0 w : World} (h : Lib.OwnBuf B 5 v n (Lib.byteCells l) W0 w) : (convert 51 9 v).run Try.prog w = .ok (.string ⟨l.toArray⟩) w := by
  obtain ⟨⟨hl, h⟩, _, _⟩ := h
  rw [Lib.byteCells_length, Nat.mul_one] at hl
  subst hl
  rcases h with ⟨rfl, h0⟩ | ⟨g, cap, cur, fz, rfl, _, hg, _, _, _, _, htk⟩
  · obtain rfl := List.eq_nil_of_length_eq_zero h0
    exact Lib.run_convert_nil_bytes w 51 9 5 0 (by kernel_rfl) (by kernel_rfl) (by kernel_rfl)
  · exact run_convert_bytes_back w 51 9 5 _ cap l (by kernel_rfl) (by kernel_rfl) (by kernel_rfl) (Lib.bytes_of_row hg (by rw [Nat.mul_one] at htk; exact htk))

theorem or128 : ∀ k : Nat, k < 256 → bits BinOp.or IntKind.u8 (k : Int) 128 = ((k % 128 + 128 : Nat) : Int) := by decide +kernel
theorem toNat_ofNat {k : Nat} (h : k < 256) : (UInt8.ofNat k).toNat = k := by simp; omega
theorem cells_snoc (pre : List UInt8) (k : Nat) (h : k < 256) : Lib.byteCells pre ++ [Value.int .u8 (k : Int)] = Lib.byteCells (pre ++ [UInt8.ofNat k]) := by
  simp only [Lib.byteCells, List.map_append, List.map_cons, List.map_nil, toNat_ofNat h]
theorem own_snoc {B n : Nat} {v : Value} {pre : List UInt8} {x : Int} {k : Nat} {W0 w : World} (hk : k < 256) (hx : x = (k : Int)) (hn : n = pre.length + 1) (h : Lib.OwnBuf B 5 v n (Lib.byteCells pre ++ [.int .u8 x]) W0 w) :
    Lib.OwnBuf B 5 v (pre ++ [UInt8.ofNat k]).length (Lib.byteCells (pre ++ [UInt8.ofNat k])) W0 w := by
  subst hx
  rw [cells_snoc pre k hk] at h
  rw [hn] at h
  simpa using h

/-- What a loop that writes in base 128 has: pre is written, m is left, of z. -/
def LInv (B : Nat) (w : World) (z : Nat) (b v : Value) (wr : World) : Prop :=
  ∃ (pre : List UInt8) (m : Nat), v = .int .u64 m ∧ m < 2147483648 ∧ pre ++ leb m = leb z ∧ pre.length ≤ 100 ∧ Lib.OwnBuf B 5 b pre.length (Lib.byteCells pre) w wr
theorem LInv.start {w : World} {z : Nat} {v : Int} (hv : v = (z : Int)) (hz : z < 2147483648) : LInv w.heap.size w z (.slice none 0 0) (.int .u64 v) w :=
  ⟨[], z, by rw [hv], hz, rfl, by simp, World.ownsRowF_nil _ _ _ _, Below.refl _ _, Nat.le_refl _⟩
theorem LInv.next {B : Nat} {w wr : World} {z m : Nat} {v : Value} {x y : Int} {pre : List UInt8} (hz : z < 2147483648) (hm : m < 2147483648) (hge : 128 ≤ m) (he : pre ++ leb m = leb z) (hx : x = ((m % 128 + 128 : Nat) : Int)) (hy : y = ((m / 128 : Nat) : Int))
    (h : Lib.OwnBuf B 5 v (pre.length + 1) (Lib.byteCells pre ++ [.int .u8 x]) w wr) : LInv B w z v (.int .u64 y) wr := by
  have e : (pre ++ [UInt8.ofNat (m % 128 + 128)]) ++ leb (m / 128) = leb z := by rw [← he, leb_ge (by omega : ¬ m < 128)]; simp
  have hl : (leb z).length ≤ 5 := leb_length z 5 (by omega) (by omega)
  refine ⟨pre ++ [UInt8.ofNat (m % 128 + 128)], m / 128, by rw [hy], by omega, e, ?_, own_snoc (by omega) hx rfl h⟩
  have := congrArg List.length e
  simp only [List.length_append] at this
  simp only [List.length_append]
  omega

set_option maxRecDepth 100000 in
set_option maxHeartbeats 8000000 in
theorem int_any (n : Nat) (hn : n < 1073741824) (w : World) :
    Calls Try.prog 55 #[.int .i64 n] w fun e w' => e = .returned (.string ⟨(leb (n * 2)).toArray⟩) ∧ Below w.heap.size w w' := by
  obtain ⟨i0, hi0, hz0, hz1, hz2⟩ := info_parts u8_info
  go_enter Try.func55, Try.ntmps55
  go_wp2
  go_loopw [3, 4] (fun b z wr => LInv w.heap.size w (n * 2) b z wr) (fun _ z _ => (intOf z).toNat)
  case atStart => exact LInv.start (by simp) (by omega)
  case round =>
    obtain ⟨pre, m, rfl, hm, he, hp, hown⟩ := hrel
    have Hown := Lib.hid hown; clear hown
    have He := Lib.hid he; clear he
    by_cases h : m < 128
    · have hge : decide ((m : Int) ≥ 128) = false := by simp; omega
      go_wp2_with (first
        | (at_builtin; refine Lib.wpList_append_byte rfl (.tmp 18) (.tmp 21) _ rfl w.heap.size 5 i0 (by kernel_rfl) hi0 hz0 hz1 hz2 _ _ _ rfl w wr _ Hown.out rfl (by omega) ?_; intro v' w' hown'; have hown2 := own_snoc (by omega) rfl rfl hown'; have hc := conv_own hown2; have hb2 := Lib.hid hown2.2.1; clear hown' hown2))
      go_ret
      refine ⟨?_, hb2.out⟩
      rw [← He.out, leb_lt h]
      rfl
    · have ho := or128 (m % 256) (by omega)
      go_wp2_with (first
        | (at_builtin; refine Lib.wpList_append_byte rfl (.tmp 12) (.tmp 16) _ rfl w.heap.size 5 i0 (by kernel_rfl) hi0 hz0 hz1 hz2 _ _ _ rfl w wr _ Hown.out rfl (by omega) ?_; intro v' w' hown'))
      refine ⟨LInv.next (by omega) hm (by omega) He.out ?_ (by omega) hown', by simp [intOf]; omega⟩
      rw [show m % 128 = m % 256 % 128 by omega, ← ho]
      simp

set_option maxRecDepth 100000 in
set_option maxHeartbeats 8000000 in
theorem refint_any (n : Nat) (hn : n < 1073741824) (w : World) :
    Calls Try.prog 57 #[.int .i64 n] w fun e w' => e = .returned (.string ⟨(leb (n * 2)).toArray⟩) ∧ Below w.heap.size w w' := by
  obtain ⟨i0, hi0, hz0, hz1, hz2⟩ := info_parts u8_info
  go_enter Try.func57, Try.ntmps57
  go_wp2
  go_loopw [4, 3] (fun b z wr => LInv w.heap.size w (n * 2) b z wr) (fun _ z _ => (intOf z).toNat)
  case atStart => exact LInv.start (by simp) (by omega)
  case round =>
    obtain ⟨pre, m, rfl, hm, he, hp, hown⟩ := hrel
    have Hown := Lib.hid hown; clear hown
    have He := Lib.hid he; clear he
    by_cases h : m < 128
    · have hge : decide ((m : Int) ≥ 128) = false := by simp; omega
      go_wp2_with (first
        | (at_builtin; refine Lib.wpList_append_byte rfl (.tmp 23) (.tmp 26) _ rfl w.heap.size 5 i0 (by kernel_rfl) hi0 hz0 hz1 hz2 _ _ _ rfl w wr _ Hown.out rfl (by omega) ?_; intro v' w' hown'; have hown2 := own_snoc (by omega) rfl rfl hown'; have hc := conv_own hown2; have hb2 := Lib.hid hown2.2.1; clear hown' hown2))
      go_ret
      refine ⟨?_, hb2.out⟩
      rw [← He.out, leb_lt h]
      rfl
    · go_wp2_with (first
        | (at_builtin; refine Lib.wpList_append_byte rfl (.tmp 14) (.tmp 19) _ rfl w.heap.size 5 i0 (by kernel_rfl) hi0 hz0 hz1 hz2 _ _ _ rfl w wr _ Hown.out rfl (by omega) ?_; intro v' w' hown'))
      exact ⟨LInv.next (by omega) hm (by omega) He.out (by omega) (by omega) hown', by simp [intOf]; omega⟩
end Go.Proofs.Ytmflngpgmmgohaa
