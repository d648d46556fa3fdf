/-
  The store's keys, sorted: the shelf's contracts on maps.Keys and slices.Sorted at this dump.
-/
import Derived.Test.YtmflngpgmmgohaaShp
import Derived.Test.YtmflngpgmmgohaaTr
import Derived.CallsIn
namespace Go.Proofs
open Go.RowKit Go.Maps Go.Sort Go.Shelf

/-- slices.Sort's two contracts at this dump, at the fence that asks nothing. -/
theorem Try.sorts63 (m : Nat) : AnyZ.SortsIn Try.prog Try.sorted63_ren Fence.wide m :=
  ⟨fun blk off cap ss W hH hblk hsz => callsIn_wide.2 (AnyM.slices_Sort_string Try.sort76 blk off cap ss W hH hblk hsz),
   fun p cap W => callsIn_wide.2 (AnyM.slices_Sort_string_none Try.sort76 p cap W)⟩

/-- maps.Keys[map[string]string,string,string], at whatever map, the nil one too: a function value over ONE NEW BLOCK, which holds the map. -/
theorem Try.maps_Keys_64 (mb : Option Nat) (W : World) : CallsIn Fence.wide 5 Try.prog 64 #[.map mb] W fun e w' => e = .returned (.func (.func 77) #[] #[.pointer (some ⟨W.heap.size, 0, none⟩)]) ∧ w' = W.alloc (.cells #[.map mb] 89) :=
  AnyZ.keys_in Try.keys64 Fence.wide 5 trivial rfl mb W

set_option maxHeartbeats 1000000 in
/-- slices.Sorted[string] AT WHAT maps.Keys[map[string]string,string,string] HANDED BACK FOR A MAP THAT IS NOT nil ('w': the world AHEAD of maps.Keys' call): A NEW SLICE THAT HOLDS THE MAP's KEYS, SORTED; nil just where it has none; nothing that lay before has turned. -/
theorem Try.slices_Sorted_keys_63_64 {H : Type} (b nn : Nat) (D0 : DataW H) (R : Value → Option (DataW H × List MemPlace)) (w : World) (hown : w.ownsMap Try.prog 9 R b nn D0) (hmax : Maps.size D0 ≤ maxLen) (hbytes : Maps.size D0 * 16 ≤ 140737488355328) :
    CallsIn Fence.wide 5 Try.prog 63 #[.func (.func 77) #[] #[.pointer (some ⟨w.heap.size, 0, none⟩)]] (w.alloc (.cells #[.map (some b)] 89)) fun e w' => ∃ (v : Value) (ss : List (List UInt8)), e = .returned v ∧ ss.Perm (strKeys D0) ∧
      w'.ownsRow (w.alloc (.cells #[.map (some b)] 89)).heap.size 9 1 v ss.length ((ss.mergeSort (fun x y => decide (x ≤ y))).map encStr) ∧ (v = .slice none 0 0 ↔ ss = []) ∧ Below (w.alloc (.cells #[.map (some b)] 89)).heap.size (w.alloc (.cells #[.map (some b)] 89)) w' := by
  have hbl := hown.lt
  have hseq : SeqGives Fence.wide 2 Try.prog 77 #[.pointer (some ⟨w.heap.size, 0, none⟩)] encStr (fun ss => ss.Perm (strKeys D0)) (Maps.size D0) (w.alloc (.cells #[.map (some b)] 89)) :=
    AnyZ.keys_gives (ρ := Try.keys64_ren) { Try.keys64 with } Fence.wide _ trivial rfl (by omega) w.heap.size b nn D0 _ (by simp) (by simp) (by
      obtain ⟨es, clock, hb, Ft, hs, hD⟩ := hown
      exact ⟨es, clock, (Below.heap_alloc _ _ b hbl).trans hb, Ft, hs, hD⟩)
  exact AnyZ.sorted_in Try.sorted63 Fence.wide 5 trivial trivial trivial trivial rfl (by omega) (Try.sorts63 _) (enters_of Try.func76 (by kernel_rfl) rfl) 77 #[.pointer (some ⟨w.heap.size, 0, none⟩)] trivial (enters_of Try.func77 (by kernel_rfl) rfl) _ _ hmax hbytes _ hseq

set_option maxHeartbeats 1000000 in
/-- .. AND FOR THE nil MAP: nil. -/
theorem Try.slices_Sorted_keys_nil_63_64 (w : World) :
    CallsIn Fence.wide 5 Try.prog 63 #[.func (.func 77) #[] #[.pointer (some ⟨w.heap.size, 0, none⟩)]] (w.alloc (.cells #[.map none] 89)) fun e w' => ∃ (v : Value) (ss : List (List UInt8)), e = .returned v ∧ ss = [] ∧
      w'.ownsRow (w.alloc (.cells #[.map none] 89)).heap.size 9 1 v ss.length ((ss.mergeSort (fun x y => decide (x ≤ y))).map encStr) ∧ (v = .slice none 0 0 ↔ ss = []) ∧ Below (w.alloc (.cells #[.map none] 89)).heap.size (w.alloc (.cells #[.map none] 89)) w' := by
  have hseq : SeqGives Fence.wide 2 Try.prog 77 #[.pointer (some ⟨w.heap.size, 0, none⟩)] encStr (fun ss : List (List UInt8) => ss = []) 0 (w.alloc (.cells #[.map none] 89)) :=
    AnyZ.keys_gives_nil (ρ := Try.keys64_ren) { Try.keys64 with } Fence.wide _ trivial rfl w.heap.size _ (by simp) (by simp)
  exact AnyZ.sorted_in Try.sorted63 Fence.wide 5 trivial trivial trivial trivial rfl (by omega) (Try.sorts63 _) (enters_of Try.func76 (by kernel_rfl) rfl) 77 #[.pointer (some ⟨w.heap.size, 0, none⟩)] trivial (enters_of Try.func77 (by kernel_rfl) rfl) _ 0 (Nat.zero_le _) (by omega) _ hseq


namespace Ytmflngpgmmgohaa
theorem ownsRow_lower {w : World} {B B' : Nat} {e : TypeId} {size n : Nat} {v : Value} {xs : List Value} (h : w.ownsRow B e size v n xs) (hB : B' ≤ B) : w.ownsRow B' e size v n xs := by
  refine ⟨h.1, ?_⟩
  rcases h.2 with h2 | ⟨g, cap, cur, h3, h4, h5⟩
  · exact .inl h2
  · exact .inr ⟨g, cap, cur, h3, Nat.le_trans hB h4, h5⟩

set_option maxRecDepth 100000 in
set_option maxHeartbeats 8000000 in
theorem keys_any (s : Nat) (S : SM) (nn : Nat) (w : World) (h : StoreAt w s S nn) (hn : nn ≤ 1048576) :
    Calls Try.prog 37 #[.pointer (some ⟨s, 0, none⟩)] w fun e w' => ∃ (v : Value) (ss : List (List UInt8)), e = .returned v ∧ ss.Perm (strKeys S.D) ∧
      w'.ownsRow w.heap.size 9 1 v ss.length ((ss.mergeSort (fun x y => decide (x ≤ y))).map encStr) ∧ Below w.heap.size w w' := by
  have hown : w.ownsMap Try.prog 9 (plainElem Try.prog 9) S.mb nn S.D := h.own
  have hsz := hown.size_le
  obtain ⟨c0, c1, c2, c3, fz⟩ := cells4 h.blk
  have hK := callsIn_wide.1 (Try.maps_Keys_64 (some S.mb) w)
  have hS := callsIn_wide.1 (Try.slices_Sorted_keys_63_64 S.mb nn S.D _ w hown (by unfold maxLen; omega) (by omega))
  clear hown h
  go_enter Try.func37, Try.ntmps37
  go_wp2_with (first
    | (go_at_call 64; refine hK.mono ?_; rintro e w1 ⟨rfl, rfl⟩)
    | (go_at_call 63; refine hS.mono ?_; rintro e w2 ⟨v, ss, rfl, hp, hrow, hnil, hb⟩; have Hrow := Lib.hid hrow; have Hp := Lib.hid hp; clear hrow hp hnil))
  go_ret
  exact ⟨v, ss, rfl, Hp.out, ownsRow_lower Hrow.out (by simp), ((Below.refl _ w).alloc (Nat.le_refl _) _).trans (hb.mono (by simp))⟩
end Ytmflngpgmmgohaa
end Go.Proofs
