/-
  Walks: seals, texts, frames.
-/
import Derived.Test.YtmflngpgmmgohaaSc
namespace Go.Proofs.Ytmflngpgmmgohaa
open Go.RowKit

def sum4 (c : Nat) : ByteArray := ⟨#[UInt8.ofNat (c % 256), UInt8.ofNat (c / 256 % 256), UInt8.ofNat (c / 65536 % 256), UInt8.ofNat (c / 16777216)]⟩
theorem sum4_size (c : Nat) : (sum4 c).size = 4 := rfl
def sealB (s : ByteArray) : ByteArray := s ++ sum4 (crc s.data.toList)
def textB (s : ByteArray) : ByteArray := ⟨(leb (s.size * 2)).toArray⟩ ++ s
def frameB (k d : ByteArray) : ByteArray := textB (sealB (textB k ++ textB d))

theorem leb5 {n : Nat} (h : n ≤ 8388608) : (leb (n * 2)).length ≤ 5 := leb_length _ 5 (by omega) (by omega)
theorem size_mk (l : List UInt8) : (ByteArray.mk l.toArray).size = l.length := by simp [ByteArray.size]
theorem sealB_size (s : ByteArray) : (sealB s).size = s.size + 4 := by unfold sealB; rw [ByteArray.size_append, sum4_size]
theorem textB_size (s : ByteArray) : (textB s).size = (leb (s.size * 2)).length + s.size := by unfold textB; rw [ByteArray.size_append, size_mk]
theorem textB_le {s : ByteArray} (h : s.size ≤ 8388608) : (textB s).size ≤ s.size + 5 := by rw [textB_size]; have := leb5 h; omega

theorem conv4 (w1 : World) (c : Nat) (hc : c < 4294967296) : (convert 51 9 (Value.slice (some ⟨w1.heap.size, 0, none⟩) 4 4)).run Try.prog (w1.alloc (Obj.cells #[Value.int IntKind.u8 ((c : Int) % 256), Value.int IntKind.u8 ((c : Int) / 256 % 256), Value.int IntKind.u8 ((c : Int) / 65536 % 256), Value.int IntKind.u8 ((c : Int) / 16777216)] 5)) =
    .ok (.string (sum4 c)) (w1.alloc (Obj.cells #[Value.int IntKind.u8 ((c : Int) % 256), Value.int IntKind.u8 ((c : Int) / 256 % 256), Value.int IntKind.u8 ((c : Int) / 65536 % 256), Value.int IntKind.u8 ((c : Int) / 16777216)] 5)) := by
  have := run_convert_bytes_back (P := Try.prog) (w1.alloc (Obj.cells #[Value.int IntKind.u8 ((c : Int) % 256), Value.int IntKind.u8 ((c : Int) / 256 % 256), Value.int IntKind.u8 ((c : Int) / 65536 % 256), Value.int IntKind.u8 ((c : Int) / 16777216)] 5)) 51 9 5 ⟨w1.heap.size, 0, none⟩ 4 (sum4 c).data.toList (by kernel_rfl) (by kernel_rfl) (by kernel_rfl) (by
    refine Lib.bytes_of_row (heap_alloc_new _ _) ?_
    have e0 : ((c : Int) % 256) = ((UInt8.ofNat (c % 256)).toNat : Int) := by rw [toNat_ofNat (by omega)]; omega
    have e1 : ((c : Int) / 256 % 256) = ((UInt8.ofNat (c / 256 % 256)).toNat : Int) := by rw [toNat_ofNat (by omega)]; omega
    have e2 : ((c : Int) / 65536 % 256) = ((UInt8.ofNat (c / 65536 % 256)).toNat : Int) := by rw [toNat_ofNat (by omega)]; omega
    have e3 : ((c : Int) / 16777216) = ((UInt8.ofNat (c / 16777216)).toNat : Int) := by rw [toNat_ofNat (by omega)]; omega
    rw [e0, e1, e2, e3]
    rfl)
  exact this

set_option maxRecDepth 100000 in
set_option maxHeartbeats 8000000 in
theorem seal_any (s : ByteArray) (hs : s.size ≤ 1048576) (w : World) :
    Calls Try.prog 54 #[.string s] w fun e w' => e = .returned (.string (sealB s)) ∧ Below w.heap.size w w' := by
  have hc : crc s.data.toList < 4294967296 := by unfold crc; omega
  have h4 := sum4_size (crc s.data.toList)
  unfold sealB
  go_enter Try.func54, Try.ntmps54
  go_wp2_with (first
    | (with_reducible refine Lex.wp_region_lex (by kernel_rfl) (by decide +kernel) ?_)
    | (with_reducible refine Lex.fin_on (by kernel_rfl) ?_)
    | (go_at_call 72; refine (sum_any s hs _).mono ?_; rintro e w1 ⟨rfl, hb1⟩; have hcv := conv4 w1 _ hc))
  go_ret
  exact ⟨rfl, hb1.alloc hb1.size _⟩

set_option maxRecDepth 100000 in
set_option maxHeartbeats 8000000 in
theorem refseal_any (s : ByteArray) (hs : s.size ≤ 1048576) (w : World) :
    Calls Try.prog 31 #[.string s] w fun e w' => e = .returned (.string (sealB s)) ∧ Below w.heap.size w w' := by
  have hc : crc s.data.toList < 4294967296 := by unfold crc; omega
  have h4 := sum4_size (crc s.data.toList)
  unfold sealB
  go_enter Try.func31, Try.ntmps31
  go_wp2_with (first
    | (with_reducible refine Lex.wp_region_lex (by kernel_rfl) (by decide +kernel) ?_)
    | (with_reducible refine Lex.fin_on (by kernel_rfl) ?_)
    | (go_at_call 58; refine (refsum_any s hs _).mono ?_; rintro e w1 ⟨rfl, hb1⟩; subst hb1; have hcv := conv4 w1 _ hc))
  go_ret
  exact ⟨rfl, (Below.refl _ _).alloc (Nat.le_refl _) _⟩

set_option maxRecDepth 100000 in
set_option maxHeartbeats 8000000 in
theorem text_any (s : ByteArray) (hs : s.size ≤ 1048576) (w : World) :
    Calls Try.prog 30 #[.string s] w fun e w' => e = .returned (.string (textB s)) ∧ Below w.heap.size w w' := by
  have hl := leb5 (n := s.size) (by omega)
  go_enter Try.func30, Try.ntmps30
  go_wp2_with (first
    | (with_reducible refine Lex.wp_region_lex (by kernel_rfl) (by decide +kernel) ?_)
    | (with_reducible refine Lex.fin_on (by kernel_rfl) ?_)
    | (go_at_call 57; refine (refint_any s.size (by omega) _).mono ?_; rintro e w1 ⟨rfl, hb1⟩))
  go_ret
  exact ⟨rfl, hb1⟩

set_option maxRecDepth 100000 in
set_option maxHeartbeats 8000000 in
theorem refbytes_any (k d : ByteArray) (hk : k.size ≤ 65536) (hd : d.size ≤ 65536) (w : World) :
    Calls Try.prog 56 #[.string k, .string d] w fun e w' => e = .returned (.string (textB k ++ textB d)) ∧ Below w.heap.size w w' := by
  have h1 := textB_le (s := k) (by omega)
  have h2 := textB_le (s := d) (by omega)
  go_enter Try.func56, Try.ntmps56
  go_wp2_with (first
    | (with_reducible refine Lex.wp_region_lex (by kernel_rfl) (by decide +kernel) ?_)
    | (with_reducible refine Lex.fin_on (by kernel_rfl) ?_)
    | (go_at_call 30; first
        | (with_reducible refine (text_any k (by omega) _).mono ?_; rintro e w1 ⟨rfl, hb1⟩)
        | (with_reducible refine (text_any d (by omega) _).mono ?_; rintro e w2 ⟨rfl, hb2⟩)))
  go_ret
  exact ⟨rfl, hb1.trans (hb2.mono hb1.size)⟩

set_option maxRecDepth 100000 in
set_option maxHeartbeats 8000000 in
theorem refframe_any (k d : ByteArray) (hk : k.size ≤ 65536) (hd : d.size ≤ 65536) (w : World) :
    Calls Try.prog 28 #[.string k, .string d] w fun e w' => e = .returned (.string (frameB k d)) ∧ Below w.heap.size w w' := by
  have h1 := textB_le (s := k) (by omega)
  have h2 := textB_le (s := d) (by omega)
  have h3 : (textB k ++ textB d).size ≤ 131082 := by rw [ByteArray.size_append]; omega
  have h4 := sealB_size (textB k ++ textB d)
  go_enter Try.func28, Try.ntmps28
  go_wp2_with (first
    | (with_reducible refine Lex.wp_region_lex (by kernel_rfl) (by decide +kernel) ?_)
    | (with_reducible refine Lex.fin_on (by kernel_rfl) ?_)
    | (go_at_call 56; refine (refbytes_any k d hk hd _).mono ?_; rintro e w1 ⟨rfl, hb1⟩)
    | (go_at_call 31; refine (refseal_any _ (by omega) _).mono ?_; rintro e w2 ⟨rfl, hb2⟩)
    | (go_at_call 30; refine (text_any _ (by omega) _).mono ?_; rintro e w3 ⟨rfl, hb3⟩))
  go_ret
  exact ⟨rfl, (hb1.trans (hb2.mono hb1.size)).trans (hb3.mono (Nat.le_trans hb1.size hb2.size))⟩

end Go.Proofs.Ytmflngpgmmgohaa
