/-
  Walks: the store's methods.
-/
import Derived.Test.YtmflngpgmmgohaaSk
namespace Go.Proofs.Ytmflngpgmmgohaa
open Go.RowKit

theorem zero9 (w : World) : (zeroValue 9).run Try.prog w = .ok (.string ⟨#[]⟩) w := by kernel_rfl
theorem key9 {k : ByteArray} (h : k.size ≤ 1048576) : keyOf Try.prog 9 (.string k) = some (sk k) := Go.WideMaps.keyOf_string_mk (by kernel_rfl) (by unfold maxLen; omega)
theorem keyed9 : Maps.Keyed Try.prog 9 := Maps.string_keyed (by kernel_rfl)
theorem elem9 {d : ByteArray} (h : d.size ≤ 1048576) : plainElem (H := Unit) Try.prog 9 (.string d) = some (.lit (.string d.data.toList), []) := plainElem_string (by kernel_rfl) (by unfold maxLen; omega)
theorem elem9_inv {v : Value} {z : MD × List MemPlace} (h : plainElem (H := Unit) Try.prog 9 v = some z) : ∃ s, v = .string s ∧ z.1 = .lit (.string s.data.toList) := by
  unfold plainElem at h
  rw [show Try.prog.underlying 9 = some .string by kernel_rfl] at h
  cases v <;> simp at h
  exact ⟨_, rfl, by rw [← h.2]⟩

theorem StoreAt.turned {w w' : World} {s nn : Nat} {S : SM} {D : MD} {m : Nat} (h : StoreAt w s S nn) (ho : w'.ownsMap Try.prog 9 (plainElem Try.prog 9) S.mb m D) (ht : w.mapTurned w' S.mb) : StoreAt w' s { S with D := D } m :=
  ⟨(ht.grown.block s (World.block_lt_of_cell? w _ (cells4 h.blk).1) (by simp; exact h.ne1)).trans h.blk, ho, h.ne1, h.ne2, h.ne3⟩
theorem StoreAt.mono {w : World} {s nn m : Nat} {S : SM} (h : StoreAt w s S nn) (hn : nn ≤ m) : StoreAt w s S m := ⟨h.blk, ownsS_mono h.own hn, h.ne1, h.ne2, h.ne3⟩

set_option maxRecDepth 100000 in
set_option maxHeartbeats 8000000 in
theorem set_any (s : Nat) (S : SM) (nn : Nat) (k d : ByteArray) (w : World) (h : StoreAt w s S nn) (hn : nn ≤ 1048576) (hk : k.size ≤ 1048576) (hd : d.size ≤ 1048576) :
    Calls Try.prog 62 #[.pointer (some ⟨s, 0, none⟩), .string k, .string d] w fun e w' => e = .returned (.tuple #[]) ∧ StoreAt w' s { S with D := setD S.D k d } (nn + 1) ∧ w.mapTurned w' S.mb := by
  obtain ⟨c0, c1, c2, c3, fz⟩ := cells4 h.blk
  have H := Lib.hid h; clear h
  by_cases hd0 : d = ⟨#[]⟩
  · have hE := isEmpty_yes hd0
    have hS : setD S.D k d = S.D.del (sk k) := by unfold setD; rw [if_pos hd0]
    rw [hS]
    clear hd0 hS
    go_enter Try.func62, Try.ntmps62
    go_wp2_with (first
      | (with_reducible refine Lex.wp_region_lex (by kernel_rfl) (by decide +kernel) ?_)
      | (with_reducible refine Lex.fin_on (by kernel_rfl) ?_)
      | (at_delete; refine wpList_delete_own _ rfl _ _ 89 9 rfl 9 keyed9 (by kernel_rfl) _ _ nn S.D rfl H.out.own _ _ rfl (key9 hk) ?_; intro w1 hown1 hturn1))
    go_end0
    exact ⟨rfl, (H.out.turned hown1 hturn1).mono (by omega), hturn1⟩
  · have hE := isEmpty_no hd0
    have hS : setD S.D k d = S.D.put (sk k) (.lit (.string d.data.toList)) := by unfold setD; rw [if_neg hd0]
    rw [hS]
    clear hd0 hS
    go_enter Try.func62, Try.ntmps62
    go_wp2_with (first
      | (with_reducible refine Lex.wp_region_lex (by kernel_rfl) (by decide +kernel) ?_)
      | (with_reducible refine Lex.fin_on (by kernel_rfl) ?_)
      | (at_mapUpdate; refine wpList_mapUpdate_in _ rfl _ _ _ 89 rfl 9 9 keyed9 (by kernel_rfl) _ _ nn S.D rfl H.out.own (by unfold maxLen; omega) _ _ _ rfl rfl (key9 hk) _ [] (elem9 hd) ?_; intro w1 hown1 hturn1))
    go_end0
    exact ⟨rfl, H.out.turned hown1 hturn1, hturn1⟩

/-- The current record of a key. -/
def getD (D : MD) (k : ByteArray) : MD := D.atKey (sk k) (.lit (.string []))

set_option maxRecDepth 100000 in
set_option maxHeartbeats 8000000 in
theorem get_any (s : Nat) (S : SM) (nn : Nat) (k : ByteArray) (w : World) (h : StoreAt w s S nn) (hk : k.size ≤ 1048576) :
    Calls Try.prog 38 #[.pointer (some ⟨s, 0, none⟩), .string k] w fun e w' => (∃ v, e = .returned (.tuple #[.string v, .bool (Maps.has S.D (sk k))]) ∧ getD S.D k = .lit (.string v.data.toList)) ∧ w' = w := by
  obtain ⟨c0, c1, c2, c3, fz⟩ := cells4 h.blk
  obtain ⟨v, ps, hrun, hv⟩ := World.ownsMap.look_ok (t := 89) (e := 9) h.own keyed9 (by kernel_rfl) (zero9 w) (elem9 (by decide)) (key9 hk)
  obtain ⟨v, rfl, hv2⟩ := elem9_inv hv
  have Hv := Lib.hid hv2; clear hv2 hv h
  generalize Maps.has S.D (sk k) = hh at *
  go_enter Try.func38, Try.ntmps38
  go_wp2_with (first
    | (with_reducible refine Lex.wp_region_lex (by kernel_rfl) (by decide +kernel) ?_)
    | (with_reducible refine Lex.fin_on (by kernel_rfl) ?_))
  go_ret2
  exact ⟨⟨v, rfl, Hv.out.symm ▸ rfl⟩, rfl⟩
end Go.Proofs.Ytmflngpgmmgohaa
