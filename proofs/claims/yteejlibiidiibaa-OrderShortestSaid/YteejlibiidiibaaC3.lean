/-
  Walks: the reference's list.
-/
import Derived.Test.YteejlibiidiibaaC2
namespace Go.Proofs.Yteejlibiidiibaa
open Go.RowKit
set_option maxRecDepth 100000
/-- The numbers of the marked ones. -/
def marked (n : Nat) (f : Nat → Bool) : List Int := ((List.range n).filter f).map fun (i : Nat) => (i : Int)
theorem marked_succ (n : Nat) (f : Nat → Bool) : marked (n + 1) f = marked n f ++ (if f n then [(n : Int)] else []) := by
  unfold marked
  rw [List.range_succ, List.filter_append, List.map_append]
  cases h : f n <;> simp [h]
theorem marked_len (n : Nat) (f : Nat → Bool) : (marked n f).length ≤ n := by
  unfold marked
  rw [List.length_map]
  exact Nat.le_trans (List.length_filter_le _ _) (by simp)
theorem int_info : (Try.prog.info? 3).map (fun i => (i.zero, i.size, i.bytes)) = some (some (.int .i64 0), 1, 8) := by kernel_rfl
/-- A list of the call's own is handed back. -/
def LO (xs : List Int) (w : World) (e : Ending) (w' : World) : Prop := ∃ v', e = .returned v' ∧ w'.ownsRow w.heap.size 3 1 v' xs.length (ic xs) ∧ Below w.heap.size w w'
set_option maxHeartbeats 8000000 in
theorem list_any (b n c : Nat) (f : Nat → Bool) (w : World) (h : BT w b n f) (hn : n ≤ 100000) : Calls Try.prog 31 #[.slice (some ⟨b, 0, none⟩) n c] w (LO (marked n f) w) := by
  have H := Lib.hid h; clear h
  go_enter Try.func31, Try.ntmps31
  go_wp2
  go_loopw [8, 3] (fun i o wr => ∃ k : Nat, i = .int .i64 k ∧ k ≤ n ∧ wr.ownsRow w.heap.size 3 1 o (marked k f).length (ic (marked k f)) ∧ Below w.heap.size w wr) (fun i _ _ => n - (intOf i).toNat)
  case atStart => exact ⟨0, rfl, by omega, World.ownsRow_nil _ _ _ _, Below.refl _ _⟩
  case round =>
    obtain ⟨k, rfl, hk, ho, hb⟩ := hrel
    have Ho := Lib.hid ho; have Hb := Lib.hid hb
    clear ho hb
    by_cases hlt : k < n
    · have z0 := (H.out.below Hb.out).cell hlt
      have hml := marked_len k f
      have hms := marked_succ k f
      cases hf : f k with
      | false =>
        rw [hf] at z0 hms
        have Hms := Lib.hid hms; clear hms hf hml
        go_wp2
        exact ⟨⟨k + 1, by go_num, by omega, by rw [Hms.out]; simpa using Ho.out, Hb.out⟩, by simp [intOf]; omega⟩
      | true =>
        rw [hf] at z0 hms
        have Hms := Lib.hid hms; clear hms hf
        have b6 : Below wr.heap.size wr (wr.alloc (.cells #[.int .i64 k] 3)) := (Below.refl _ _).alloc (Nat.le_refl _) _
        have n6 := heap_alloc_new wr (.cells #[.int .i64 k] 3)
        have Ho6 := Lib.hid (ownsRow_below Ho.out b6 (Nat.le_refl _)); have Hb6 := Lib.hid (Hb.out.step b6)
        have Hrc := Lib.hid (show RC (wr.alloc (.cells #[.int .i64 k] 3)) 1 (some ⟨wr.heap.size, 0, none⟩) 1 (ic [(k : Int)]) from RC.row rfl n6 (fun j u hu => by simpa [ic] using hu))
        have hbz := Hb6.out.size
        have Hbz := Lib.hid hbz
        have hbd : (marked k f).length + 1 ≤ 67108864 := by omega
        clear b6 n6 hbz hml
        go_wp2_with (at_builtin; go_loud (refine wpList_append_ownrc rfl (.tmp 14) (.tmp 16) 22 rfl 3 (by kernel_rfl) int_info rfl (by decide) (by decide) w.heap.size _ (some ⟨wr.heap.size, 0, none⟩) (marked k f).length 1 1 _ (ic [(k : Int)]) Hbz.out _ rfl rfl Ho6.out Hrc.out (ic_one _) hbd ?_); intro v3 w3 ho3 hf3; have Ho3 := Lib.hid ho3; have Hf3 := Lib.hid (hf3.below Hbz.out (by simp) (fun g hg => (Ho6.out.lt g hg).1)); clear ho3 hf3)
        exact ⟨⟨k + 1, by go_num, by omega, by have h9 := Ho3.out; rw [Hms.out, if_pos rfl, List.length_append, show ic (marked k f ++ [(k : Int)]) = ic (marked k f) ++ ic [(k : Int)] by simp [ic]]; exact h9, Hb6.out.trans Hf3.out⟩, by simp [intOf]; omega⟩
    · obtain rfl : k = n := by omega
      go_wp2
      go_ret
      exact ⟨_, rfl, Ho.out, Hb.out⟩
end Go.Proofs.Yteejlibiidiibaa
