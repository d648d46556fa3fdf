/-
  Walks: Support.
-/
import Derived.Test.YtkppcibffbnhoaaL0
import Derived.Test.YtkppcibffbnhoaaL1
namespace Go.Proofs.Ytkppcibffbnhoaa
open Go.RowKit
set_option maxRecDepth 100000

theorem has_node {L : List T} (w : Wf L) {l : Nat} : ∀ {t : T}, inn L t → t.has l → ∃ h k, T.n l h k ∈ L
  | .c _, _, h => h.elim
  | .n m h k, i, hh => by
    obtain ⟨i1, i2⟩ := w.kids i
    rcases hh with rfl | hh | hh
    · exact ⟨h, k, i⟩
    · exact has_node w i1 hh
    · exact has_node w i2 hh
theorem vis_has {l : Nat} {x y : T} : ∀ {t : T} {L : List T}, T.n l x y ∈ vis t L → T.n l x y ∈ L ∨ t.has l
  | .c _, _, h => .inl h
  | .n m h k, L, hm => by
    simp only [vis] at hm
    split at hm
    · exact .inl hm
    · simp only [List.mem_append, List.mem_singleton] at hm
      rcases hm with hm | hm
      · rcases vis_has hm with h1 | h1
        · rcases vis_has h1 with h2 | h2
          · exact .inl h2
          · exact .inr (by simp [T.has, h2])
        · exact .inr (by simp [T.has, h1])
      · cases hm
        exact .inr (.inl rfl)
/-- The literals of a diagram's nodes. -/
def litsN (N : List Tri) : List Int := N.map fun x => (x.1 : Int)
theorem litsN_mem {t : T} (o : t.Ok) (x : Int) : x ∈ litsN (canonN t) ↔ ∃ l : Nat, x = l ∧ t.has l := by
  obtain ⟨w, i⟩ := canon_wf o
  simp only [litsN, canonN, nodes, List.map_map, List.mem_map, Function.comp]
  constructor
  · rintro ⟨y, hy, rfl⟩
    obtain ⟨l, h, k, rfl⟩ := w.nc y hy
    refine ⟨l, rfl, ?_⟩
    rcases vis_has (L := []) hy with h1 | h1
    · simp at h1
    · exact h1
  · rintro ⟨l, rfl, h⟩
    obtain ⟨a, b, hm⟩ := has_node w i h
    exact ⟨_, hm, rfl⟩
theorem own_le {w : World} {B n c : Nat} {p : Option Addr} {e : TypeId} {size : Nat} {xs : List Value} (h : w.ownsRow B e size (.slice p n c) n xs) : n ≤ c := by
  rcases h.2 with ⟨e1, h0⟩ | ⟨g, cap, cur, e1, _, _, h3, _⟩
  · cases e1; exact Nat.le_refl _
  · cases e1; exact h3
theorem field24 (p : Option Addr) (n c : Nat) (r : Int) (w : World) : (Instr.field 24 (.agg #[.slice p n c, .int .i64 r]) 0).run Try.prog w = .ok (.slice p n c) w := by kernel_rfl
/-- What Support answers. -/
def SU (t : T) (w : World) (e : Ending) (w' : World) : Prop := ∃ v' xs, e = .returned v' ∧ IS w' v' xs ∧ AscI xs ∧ (∀ x, x ∈ xs ↔ ∃ l : Nat, x = l ∧ t.has l) ∧ xs.length ≤ 5000 ∧ Below w.heap.size w w'
set_option maxHeartbeats 8000000 in
theorem support_any (v : Value) (t : T) (w : World) (h : DV w v t) : Calls Try.prog 27 #[v] w (SU t w) := by
  obtain ⟨p, cap, rfl, hns⟩ := id h.dd.ex
  have hA := (Below.refl w.heap.size w).alloc (Nat.le_refl _) (.cells #[.slice p (canonN t).length cap, .int .i64 (canonR t)] 24)
  have hnA := heap_alloc_new w (.cells #[.slice p (canonN t).length cap, .int .i64 (canonR t)] 24)
  have hs := sound_tree _ t _ (h.below hA)
  have hcl := canon_len h.ok
  have hfd := field24
  have hmem := litsN_mem h.ok
  have Hns := Lib.hid hns; have HA := Lib.hid hA; have HnA := Lib.hid hnA; have Hs := Lib.hid hs; have Hmem := Lib.hid hmem
  clear h hns hA hnA hs hmem
  generalize canonN t = N at *
  go_enter Try.func27, Try.ntmps27
  go_upto_region 1 with fail
  generalize w.alloc (.cells #[.slice p N.length cap, .int .i64 (canonR t)] 24) = w1 at *
  obtain ⟨a0, a1, -⟩ := cells2 HnA.out
  go_wp2_with (go_at_call 42; refine Hs.out.mono ?_; rintro e w2 ⟨rfl, q⟩; have Q := Lib.hid (HA.out.step q); clear q)
  go_loopw [10, 3] (fun i o wr => ∃ k : Nat, i = .int .i64 k ∧ k ≤ N.length ∧ wr.ownsRow w.heap.size 3 1 o k (ic (litsN (N.take k))) ∧ Below w.heap.size w wr) (fun i _ _ => N.length - (intOf i).toNat)
  case atStart => exact ⟨0, rfl, by omega, World.ownsRow_nil _ _ _ _, Q.out⟩
  clear Q a0 a1 HA HnA Hs
  case round =>
    obtain ⟨k, rfl, hk, ho, hb⟩ := hrel
    have Ho := Lib.hid ho; have Hb := Lib.hid hb
    clear ho hb
    by_cases hlt : k < N.length
    · obtain ⟨a, o, rfl, ha, x0, x1, x2⟩ := Hns.out.below Hb.out k hlt
      have htk : ic (litsN (N.take (k + 1))) = ic (litsN (N.take k)) ++ [.int .i64 ((N[k]).1 : Int)] := by
        rw [List.take_succ_eq_append_getElem hlt]; unfold litsN ic; rw [List.map_append, List.map_append]; rfl
      generalize N[k] = x at *
      obtain ⟨l, hh, kk⟩ := x
      dsimp only at x0 x1 x2 htk
      go_upto_region 5 with fail
      have b5 : Below wr.heap.size wr (wr.alloc (.cells #[.int .i64 l, .int .i64 hh, .int .i64 kk] 32)) := (Below.refl _ _).alloc (Nat.le_refl _) _
      have n5 := heap_alloc_new wr (.cells #[.int .i64 l, .int .i64 hh, .int .i64 kk] 32)
      have Ho5 := Lib.hid (ownsRow_below Ho.out b5 (Nat.le_refl _)); have Hb5 := Lib.hid (Hb.out.step b5)
      clear Ho Hb b5 x0 x1 x2
      generalize wr.alloc (.cells #[.int .i64 l, .int .i64 hh, .int .i64 kk] 32) = w5 at *
      obtain ⟨c0, c1, c2⟩ := cellsT n5
      clear n5
      have b6 : Below w5.heap.size w5 (w5.alloc (.cells #[.int .i64 l] 3)) := (Below.refl _ _).alloc (Nat.le_refl _) _
      have n6 := heap_alloc_new w5 (.cells #[.int .i64 l] 3)
      have Ho6 := Lib.hid (ownsRow_below Ho5.out b6 (Nat.le_refl _)); have Hb6 := Lib.hid (Hb5.out.step b6)
      have Hrc := Lib.hid (show RC (w5.alloc (.cells #[.int .i64 l] 3)) 1 (some ⟨w5.heap.size, 0, none⟩) 1 (ic [(l : Int)]) from RC.row rfl n6 (fun j u hu => by simpa [ic] using hu))
      have hbz := Hb6.out.size
      have Hbz := Lib.hid hbz
      have hbd : k + 1 ≤ 67108864 := by omega
      clear b6 n6 hbz Ho5 Hb5
      go_wp2_with (at_builtin; go_loud (refine wpList_append_ownrc rfl (.tmp 14) (.tmp 17) 44 rfl 3 (by kernel_rfl) int_info rfl (by decide) (by decide) w.heap.size _ (some ⟨w5.heap.size, 0, none⟩) k 1 1 _ (ic [(l : Int)]) Hbz.out _ rfl rfl Ho6.out Hrc.out (ic_one _) hbd ?_); intro v3 w3 ho3 hf3; have Ho3 := Lib.hid ho3; have Hf3 := Lib.hid (hf3.below Hbz.out (by simp) (fun g hg => (Ho6.out.lt g hg).1)); clear ho3 hf3)
      exact ⟨⟨k + 1, by go_num, by omega, by rw [htk]; exact Ho3.out, Hb6.out.trans Hf3.out⟩, by simp [intOf]; omega⟩
    · obtain rfl : k = N.length := by omega
      have ho := Ho.out
      rw [List.take_length] at ho
      obtain ⟨xs, hxs⟩ : ∃ xs, xs = litsN N := ⟨_, rfl⟩
      have hln : N.length = xs.length := by rw [hxs]; simp [litsN]
      rw [← hxs] at ho Hmem
      rw [hln] at ho hcl
      obtain ⟨hasc, hm2⟩ := compacti_asc xs
      have hl2 := compacti_len (srtI xs)
      have hl3 := srtI_len xs
      have Hsrt := Lib.hid (sorti_any _ _ xs (by omega) _ ho)
      have hcp := fun v wx (hx : wx.ownsRow w.heap.size 3 1 v (srtI xs).length (ic (srtI xs))) => compacti_any w.heap.size v (srtI xs) (by omega) wx hx
      have Hcp := Lib.hid hcp
      have Hm2 := Lib.hid hm2; have Hasc := Lib.hid hasc; have Hll := Lib.hid (show (Lib.compact (srtI xs)).length ≤ 5000 by omega)
      clear ho hcp hm2 hasc hxs hln hl2 hl3
      go_wp2_with (first
        | (go_at_call 50; refine Hsrt.out.mono ?_; rintro e w3 ⟨rfl, ho3, hb3⟩; have Ho3 := Lib.hid ho3; have Hb3 := Lib.hid (Hb.out.trans hb3); clear ho3 hb3)
        | (go_at_call 51; refine (Hcp.out _ _ Ho3.out).mono ?_; rintro e w4 ⟨v4, rfl, ho4, hb4⟩; have Ho4 := Lib.hid ho4; have Hb4 := Lib.hid (Hb3.out.trans hb4); obtain ⟨p4, c4, rfl⟩ := own_slice ho4; have hle4 := own_le ho4; clear ho4 hb4)
        | (go_at_call 45; refine (clip_any _ _ _ hle4 _).mono ?_; rintro e w5 ⟨rfl, rfl⟩))
      go_ret
      exact ⟨_, Lib.compact (srtI xs), rfl, ⟨p4, _, rfl, Nat.le_refl _, RC.of_own Ho4.out⟩, Hasc.out, fun x => (Hm2.out x).trans (Hmem.out x), Hll.out, Hb4.out⟩
end Go.Proofs.Ytkppcibffbnhoaa
