/-
  Walks: the program's frames.
-/
import Derived.Test.YtmflngpgmmgohaaSd
namespace Go.Proofs.Ytmflngpgmmgohaa
open Go.RowKit
set_option maxRecDepth 100000 in
set_option maxHeartbeats 8000000 in
theorem frame_any (k d : ByteArray) (hk : k.size ≤ 65536) (hd : d.size ≤ 65536) (w : World) :
    Calls Try.prog 27 #[.string k, .string d] w fun e w' => e = .returned (.string (frameB k d)) ∧ Below w.heap.size w w' := by
  have l1 := leb5 (n := k.size) (by omega)
  have l2 := leb5 (n := d.size) (by omega)
  have e1 := size_mk (leb (k.size * 2))
  have e2 := size_mk (leb (d.size * 2))
  have h1 := textB_le (s := k) (by omega)
  have h2 := textB_le (s := d) (by omega)
  have h3 : (textB k ++ textB d).size ≤ 131082 := by rw [ByteArray.size_append]; omega
  have h4 := sealB_size (textB k ++ textB d)
  have l3 := leb5 (n := (sealB (textB k ++ textB d)).size) (by omega)
  have H4 := Lib.hid h4; have H3 := Lib.hid h3; clear h4 h3
  have l4 : (sealB (textB k ++ textB d)).size ≤ 131086 := by have := H4.out; have := H3.out; omega
  have hass : ⟨(leb (k.size * 2)).toArray⟩ ++ k ++ ⟨(leb (d.size * 2)).toArray⟩ ++ d = textB k ++ textB d := by unfold textB; simp only [ByteArray.append_assoc]
  go_enter Try.func27, Try.ntmps27
  go_wp2_with (first
    | (with_reducible refine Lex.wp_region_lex (by kernel_rfl) (by decide +kernel) ?_)
    | (with_reducible refine Lex.fin_on (by kernel_rfl) ?_)
    | (go_at_call 54; refine (seal_any (textB k ++ textB d) (by have := H3.out; omega) _).mono ?_; rintro e w3 ⟨rfl, hb3⟩)
    | (go_at_call 55; first
        | (with_reducible refine (int_any k.size (by omega) _).mono ?_; rintro e w1 ⟨rfl, hb1⟩)
        | (with_reducible refine (int_any d.size (by omega) _).mono ?_; rintro e w2 ⟨rfl, hb2⟩)
        | (with_reducible refine (int_any (sealB (textB k ++ textB d)).size (by omega) _).mono ?_; rintro e w4 ⟨rfl, hb4⟩)))
  go_ret
  exact ⟨rfl, ((hb1.trans (hb2.mono hb1.size)).trans (hb3.mono (Nat.le_trans hb1.size hb2.size))).trans (hb4.mono (Nat.le_trans hb1.size (Nat.le_trans hb2.size hb3.size)))⟩
end Go.Proofs.Ytmflngpgmmgohaa
