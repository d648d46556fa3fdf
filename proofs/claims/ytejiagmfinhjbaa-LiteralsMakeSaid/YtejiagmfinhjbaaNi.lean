/-
  Walks: FreshKey.
-/
import Derived.Test.YtejiagmfinhjbaaNh
namespace Go.Proofs.Ytejiagmfinhjbaa
open Go.RowKit Go.Ident Go.Maps

/-- A slice of keys that came in. -/
structure Keys (w : World) (p : Option Addr) (ks : List (Int × ByteArray)) : Prop where
  cell : ∀ i (h : i < ks.length), ∃ a o, p = some ⟨a, o, none⟩ ∧ a < w.heap.size ∧ w.cell? ⟨a, o + i * 2, none⟩ = some (.int .i64 ks[i].1) ∧ w.cell? ⟨a, o + i * 2 + 1, none⟩ = some (.string ks[i].2)
  size : ∀ i (h : i < ks.length), ks[i].2.size ≤ maxLen
theorem Keys.below {w wr : World} {p : Option Addr} {ks : List (Int × ByteArray)} (h : Keys w p ks) (hb : Below w.heap.size w wr) : Keys wr p ks := by
  refine ⟨fun i hi => ?_, h.size⟩
  obtain ⟨a, o, h1, h2, h3, h4⟩ := h.cell i hi
  exact ⟨a, o, h1, Nat.lt_of_lt_of_le h2 hb.size, (hb.cell h2).trans h3, (hb.cell h2).trans h4⟩
/-- The texts of the keys of a kind. -/
def filt (kind : Int) (ks : List (Int × ByteArray)) : List ByteArray := (ks.filter fun k => decide (k.1 = kind)).map (·.2)
theorem filt_yes {kind : Int} {ks : List (Int × ByteArray)} {k : Nat} (h : k < ks.length) (he : ks[k].1 = kind) : filt kind (ks.take (k + 1)) = filt kind (ks.take k) ++ [ks[k].2] := by
  unfold filt; rw [List.take_succ_eq_append_getElem h, List.filter_append, List.map_append]
  simp [he]
theorem filt_no {kind : Int} {ks : List (Int × ByteArray)} {k : Nat} (h : k < ks.length) (he : ks[k].1 ≠ kind) : filt kind (ks.take (k + 1)) = filt kind (ks.take k) := by
  unfold filt; rw [List.take_succ_eq_append_getElem h, List.filter_append, List.map_append]
  simp [he]
theorem filt_len (kind : Int) (ks : List (Int × ByteArray)) : (filt kind ks).length ≤ ks.length := by unfold filt; rw [List.length_map]; exact List.length_filter_le _ _
theorem bys_append (a b : List ByteArray) : bys (a ++ b) = bys a ++ bys b := by simp [bys]
theorem TM.mono {w : World} {b n m : Nat} {l : List (List UInt8)} (h : TM w b n l) (hn : n ≤ m) : TM w b m l := by
  obtain ⟨D, ho, hD⟩ := h
  exact ⟨D, World.ownsMap.mono ho hn, hD⟩

/-- What the first loop of FreshKey has. -/
structure FK (w : World) (kind : Int) (ks : List (Int × ByteArray)) (k : Nat) (wr : World) : Prop where
  tm : TM wr (w.heap.size + 1) k (bys (filt kind (ks.take k)))
  blk : Blk w.heap.size 0 ⟨#[]⟩ wr
  below : Below w.heap.size w wr
theorem FK.start (w : World) (kind : Int) (ks : List (Int × ByteArray)) : FK w kind ks 0 ((w.alloc (.cells #[.int .i64 0, .string ⟨#[]⟩] 36)).alloc (.map #[] 0)) := by
  have hs : (w.alloc (.cells #[.int .i64 0, .string ⟨#[]⟩] 36)).heap.size = w.heap.size + 1 := by simp
  refine ⟨?_, (Blk.new w 0 ⟨#[]⟩).alloc _, below_alloc ((Below.refl _ _).alloc (Nat.le_refl _) _) _⟩
  have := TM.start (w.alloc (.cells #[.int .i64 0, .string ⟨#[]⟩] 36))
  rw [hs] at this
  exact this
theorem FK.skip {w wr : World} {kind : Int} {ks : List (Int × ByteArray)} {k : Nat} (h : FK w kind ks k wr) (hk : k < ks.length) (he : ks[k].1 ≠ kind) (o : Obj) : FK w kind ks (k + 1) (wr.alloc o) :=
  ⟨by rw [filt_no hk he]; exact (h.tm.at (heap_alloc_old _ _ h.tm.lt)).mono (by omega), h.blk.alloc _, h.below.alloc h.below.size _⟩

set_option maxRecDepth 100000 in
set_option maxHeartbeats 16000000 in
theorem freshKey0 (p : Option Addr) (cap : Nat) (ks : List (Int × ByteArray)) (hks : ks.length ≤ 60) (w : World) (hst : Keys w p ks) :
    Calls Try.prog 33 #[.int .i64 0, .slice p ks.length cap] w fun e w' => e = .returned (.agg #[.int .i64 0, .string ⟨(fre 0 (bys (filt 0 ks))).toArray⟩]) ∧ Below w.heap.size w w' := by
  have hmm := @run_makeMap Try.prog
  have Hst := Lib.hid hst; clear hst
  obtain ⟨m, hm⟩ : ∃ m, m = ks.length := ⟨_, rfl⟩
  rw [← hm]
  have hmb : m ≤ 60 := by omega
  have Hm := Lib.hid hm; clear hm
  have hfre : fre 0 (bys (filt 0 ks)) = seqK 0 (freN 0 (bys (filt 0 ks))) := rfl
  have hN := freN_spec (kind := 0) (by omega) (used := bys (filt 0 ks)) (by simp [bys]; have := filt_len 0 ks; omega)
  rw [hfre]
  have HN := Lib.hid hN; clear hN hfre hks
  generalize freN 0 (bys (filt 0 ks)) = N at *
  have Hfk := Lib.hid (FK.start w 0 ks)
  go_enter Try.func33, Try.ntmps33
  go_wp2
  clear hmm
  generalize (w.alloc (.cells #[.int .i64 0, .string ⟨#[]⟩] 36)).alloc (.map #[] 0) = wa at *
  go_loopw [19] (fun i wr => ∃ k : Nat, k ≤ m ∧ i = .int .i64 k ∧ FK w 0 ks k wr) (fun i _ => m - (intOf i).toNat)
  case atStart => exact ⟨0, by omega, rfl, Hfk.out⟩
  case round =>
    obtain ⟨k, hk, rfl, hf⟩ := hrel
    by_cases hlt : k < m
    · have hkl : k < ks.length := by rw [← Hm.out]; exact hlt
      obtain ⟨a, o, rfl, ha, x0, x1⟩ := (Hst.out.below hf.below).cell k hkl
      have hsz := Hst.out.size k hkl
      by_cases he : ks[k].1 = 0
      · have hfy := filt_yes hkl he
        rw [he] at x0
        obtain ⟨s, hs⟩ : ∃ s, s = ks[k].2 := ⟨_, rfl⟩
        rw [← hs] at x1 hsz hfy
        obtain ⟨⟨D, ho, hD⟩, hblk, hbel⟩ := hf
        have Ho := Lib.hid (World.ownsMap.alloc ho (.cells #[.int .i64 0, .string s] 36)); have HD := Lib.hid hD; have Hblk := Lib.hid hblk; have Hbel := Lib.hid hbel; have Hsz := Lib.hid hsz; have Hfy := Lib.hid hfy
        clear ho hD hblk hbel hsz hfy he hs hkl ha
        go_wp2_with (first
          | (at_mapUpdate; refine wpList_mapUpdate_own _ rfl (.tmp 27) (.tmp 29) (.const (.bool true)) 59 rfl 9 4 keyed9 (by kernel_rfl) (plainElem Try.prog 4) (w.heap.size + 1) k D rfl Ho.out (by unfold maxLen; omega) (.string s) (.bool true) _ rfl rfl (key9 Hsz.out) _ [] (elem4 true) ?_; intro w1 hown1 hgrow1; have Ho1 := Lib.hid hown1; have Hg1 := Lib.hid hgrow1; clear hown1 hgrow1))
        refine ⟨⟨k + 1, by omega, by go_num, ?_, ?_, ?_⟩, by simp [intOf]; omega⟩
        · rw [Hfy.out, bys_append]; exact TM.step Ho.out HD.out Ho1.out
        · exact (Hg1.out.block _ (Hblk.out.alloc _).lt (by simp)).trans (Hblk.out.alloc _)
        · exact (Hbel.out.alloc Hbel.out.size _).grown Hg1.out (Hbel.out.alloc Hbel.out.size _).size (fun _ h => by cases h; omega)
      · have Hn := Lib.hid (hf.skip hkl he (.cells #[.int .i64 ks[k].1, .string ks[k].2] 36))
        have d0 : (ks[k].1 == 0) = false := by simpa using he
        generalize ks[k].1 = k1 at *
        generalize ks[k].2 = s1 at *
        clear hf hsz he hkl ha
        go_wp2
        exact ⟨⟨k + 1, by omega, by go_num, Hn.out⟩, by simp [intOf]; omega⟩
    · have hall : ks.take k = ks := List.take_of_length_le (by rw [← Hm.out]; omega)
      obtain rfl : k = m := by omega
      obtain ⟨htm, hblk, hbel⟩ := hf
      rw [hall] at htm
      clear hall
      generalize bys (filt 0 ks) = L at *
      have Htm := Lib.hid htm; have Hblk := Lib.hid hblk; have Hbel := Lib.hid hbel
      clear htm hblk hbel
      generalize wr = wm at *
      have hL0 : ∀ w : World, Calls Try.prog 47 #[.int .i64 0, .int .i64 0] w fun e w' => ∃ g, e = .returned (.slice (some ⟨g, 0, none⟩) 0 0) ∧ BS w.heap.size g (low 0 0) w' ∧ Below w.heap.size w w' := lowest_any 0 0 (by omega) (by omega)
      have hL1 : ∀ w : World, Calls Try.prog 47 #[.int .i64 0, .int .i64 1] w fun e w' => ∃ g, e = .returned (.slice (some ⟨g, 0, none⟩) 1 1) ∧ BS w.heap.size g (low 0 1) w' ∧ Below w.heap.size w w' := lowest_any 0 1 (by omega) (by omega)
      go_wp2_with (first
        | (go_at_call 47; first
            | (with_reducible refine (hL0 _).mono ?_; rintro e w1 ⟨g0, rfl, hb0, hw0⟩; have Hw0 := Lib.hid hw0; clear hb0 hw0)
            | (with_reducible refine (hL1 _).mono ?_; rintro e w2 ⟨g1, rfl, hb1, hw1⟩; have Hb1 := Lib.hid hb1; have Hw1 := Lib.hid hw1; clear hb1 hw1)))
      have hsz1 := Hw0.out.size
      have hfi : FI wm wm.heap.size (w.heap.size + 1) k 0 L 0 g1 w2 := ⟨World.ownsRow_base Hb1.out hsz1, (Htm.out.at (Hw0.out.block _ Htm.out.lt)).at (Hw1.out.block _ (Nat.lt_of_lt_of_le Htm.out.lt hsz1)), Hw0.out.trans (Hw1.out.mono hsz1)⟩
      clear hsz1
      have Hfi := Lib.hid hfi; clear hfi hL0
      have Hmlt := Lib.hid Htm.out.lt
      go_loopg [8] N (fun q v w2 => ∃ n g, q + n = N ∧ v = .slice (some ⟨g, 0, none⟩) (seqK 0 n).length (seqK 0 n).length ∧ FI wm wm.heap.size (w.heap.size + 1) k 0 L n g w2)
      case atStart => exact ⟨0, g1, by omega, rfl, Hfi.out⟩
      case round =>
        obtain ⟨n, g, hq, rfl, hfi⟩ := hrel
        have hn : n ≤ 60 := by have := HN.out.1; omega
        have hlk := hfi.look (by omega) (by omega)
        have hcv := hfi.conv
        have hlen := seqK_len (kind := 0) (by omega) (show n ≤ 61 by omega)
        have hnx := next_any 0 wm.heap.size g (seqK 0 n) (by omega) (by omega) wr hfi.bs
        rw [nxt_seq (by omega) hn] at hnx
        have Hfi := Lib.hid hfi; clear hfi
        have hsz := Lib.hid Hfi.out.below.size
        by_cases hlt : n < N
        · rw [decide_eq_true (HN.out.2.2 n hlt)] at hlk
          clear hlen
          go_wp2_with (first
            | (go_at_call 48; refine hnx.mono ?_; rintro e w3 ⟨g3, rfl, hb3, hw3⟩; have Hb3 := Lib.hid hb3; have Hw3 := Lib.hid hw3; clear hb3 hw3))
          go_roundg (N - (n + 1))
          case measure => omega
          case rel => exact ⟨n + 1, g3, by omega, rfl, Hb3.out, Hfi.out.tm.at (Hw3.out.block _ Hmlt.out), Hfi.out.below.trans Hw3.out⟩
        · obtain rfl : n = N := by omega
          rw [decide_eq_false HN.out.2.1] at hlk
          clear hlen hnx
          have Hb := Lib.hid (Hblk.out.below Hfi.out.below)
          go_wp2_with (first
            | ((with_reducible refine at_store ?_); refine wpList_store_row rfl 36 (.tmp 4) (.tmp 47) rfl _ _ rfl rfl _ _ Hb.out (by kernel_rfl) (by kernel_rfl) (by kernel_rfl) ?_))
          exact bodyPost_ret (results_cell_row rfl _ _ w.heap.size 36 _ (0, 0) _ rfl (setRow_heap _ _ _ _ _ _ Hb.out) rfl rfl (by kernel_rfl)) rfl ⟨rfl, below_setRow (Hbel.out.trans (Hfi.out.below.mono Hbel.out.size)) (Nat.le_refl _) _⟩

set_option maxRecDepth 100000 in
set_option maxHeartbeats 16000000 in
theorem freshKey1 (p : Option Addr) (cap : Nat) (ks : List (Int × ByteArray)) (hks : ks.length ≤ 60) (w : World) (hst : Keys w p ks) :
    Calls Try.prog 33 #[.int .i64 1, .slice p ks.length cap] w fun e w' => e = .returned (.agg #[.int .i64 1, .string ⟨(fre 1 (bys (filt 1 ks))).toArray⟩]) ∧ Below w.heap.size w w' := by
  have hmm := @run_makeMap Try.prog
  have Hst := Lib.hid hst; clear hst
  obtain ⟨m, hm⟩ : ∃ m, m = ks.length := ⟨_, rfl⟩
  rw [← hm]
  have hmb : m ≤ 60 := by omega
  have Hm := Lib.hid hm; clear hm
  have hfre : fre 1 (bys (filt 1 ks)) = seqK 1 (freN 1 (bys (filt 1 ks))) := rfl
  have hN := freN_spec (kind := 1) (by omega) (used := bys (filt 1 ks)) (by simp [bys]; have := filt_len 1 ks; omega)
  rw [hfre]
  have HN := Lib.hid hN; clear hN hfre hks
  generalize freN 1 (bys (filt 1 ks)) = N at *
  have Hfk := Lib.hid (FK.start w 1 ks)
  go_enter Try.func33, Try.ntmps33
  go_wp2
  clear hmm
  generalize (w.alloc (.cells #[.int .i64 0, .string ⟨#[]⟩] 36)).alloc (.map #[] 0) = wa at *
  go_loopw [19] (fun i wr => ∃ k : Nat, k ≤ m ∧ i = .int .i64 k ∧ FK w 1 ks k wr) (fun i _ => m - (intOf i).toNat)
  case atStart => exact ⟨0, by omega, rfl, Hfk.out⟩
  case round =>
    obtain ⟨k, hk, rfl, hf⟩ := hrel
    by_cases hlt : k < m
    · have hkl : k < ks.length := by rw [← Hm.out]; exact hlt
      obtain ⟨a, o, rfl, ha, x0, x1⟩ := (Hst.out.below hf.below).cell k hkl
      have hsz := Hst.out.size k hkl
      by_cases he : ks[k].1 = 1
      · have hfy := filt_yes hkl he
        rw [he] at x0
        obtain ⟨s, hs⟩ : ∃ s, s = ks[k].2 := ⟨_, rfl⟩
        rw [← hs] at x1 hsz hfy
        obtain ⟨⟨D, ho, hD⟩, hblk, hbel⟩ := hf
        have Ho := Lib.hid (World.ownsMap.alloc ho (.cells #[.int .i64 1, .string s] 36)); have HD := Lib.hid hD; have Hblk := Lib.hid hblk; have Hbel := Lib.hid hbel; have Hsz := Lib.hid hsz; have Hfy := Lib.hid hfy
        clear ho hD hblk hbel hsz hfy he hs hkl ha
        go_wp2_with (first
          | (at_mapUpdate; refine wpList_mapUpdate_own _ rfl (.tmp 27) (.tmp 29) (.const (.bool true)) 59 rfl 9 4 keyed9 (by kernel_rfl) (plainElem Try.prog 4) (w.heap.size + 1) k D rfl Ho.out (by unfold maxLen; omega) (.string s) (.bool true) _ rfl rfl (key9 Hsz.out) _ [] (elem4 true) ?_; intro w1 hown1 hgrow1; have Ho1 := Lib.hid hown1; have Hg1 := Lib.hid hgrow1; clear hown1 hgrow1))
        refine ⟨⟨k + 1, by omega, by go_num, ?_, ?_, ?_⟩, by simp [intOf]; omega⟩
        · rw [Hfy.out, bys_append]; exact TM.step Ho.out HD.out Ho1.out
        · exact (Hg1.out.block _ (Hblk.out.alloc _).lt (by simp)).trans (Hblk.out.alloc _)
        · exact (Hbel.out.alloc Hbel.out.size _).grown Hg1.out (Hbel.out.alloc Hbel.out.size _).size (fun _ h => by cases h; omega)
      · have Hn := Lib.hid (hf.skip hkl he (.cells #[.int .i64 ks[k].1, .string ks[k].2] 36))
        have d0 : (ks[k].1 == 1) = false := by simpa using he
        generalize ks[k].1 = k1 at *
        generalize ks[k].2 = s1 at *
        clear hf hsz he hkl ha
        go_wp2
        exact ⟨⟨k + 1, by omega, by go_num, Hn.out⟩, by simp [intOf]; omega⟩
    · have hall : ks.take k = ks := List.take_of_length_le (by rw [← Hm.out]; omega)
      obtain rfl : k = m := by omega
      obtain ⟨htm, hblk, hbel⟩ := hf
      rw [hall] at htm
      clear hall
      generalize bys (filt 1 ks) = L at *
      have Htm := Lib.hid htm; have Hblk := Lib.hid hblk; have Hbel := Lib.hid hbel
      clear htm hblk hbel
      generalize wr = wm at *
      have hL0 : ∀ w : World, Calls Try.prog 47 #[.int .i64 1, .int .i64 0] w fun e w' => ∃ g, e = .returned (.slice (some ⟨g, 0, none⟩) 0 0) ∧ BS w.heap.size g (low 1 0) w' ∧ Below w.heap.size w w' := lowest_any 1 0 (by omega) (by omega)
      go_wp2_with (first
        | (go_at_call 47; refine (hL0 _).mono ?_; rintro e w2 ⟨g1, rfl, hb1, hw1⟩; have Hb1 := Lib.hid hb1; have Hw1 := Lib.hid hw1; clear hb1 hw1))
      have hfi : FI wm wm.heap.size (w.heap.size + 1) k 1 L 0 g1 w2 := ⟨Hb1.out, Htm.out.at (Hw1.out.block _ Htm.out.lt), Hw1.out⟩
      have Hfi := Lib.hid hfi; clear hfi hL0
      have Hmlt := Lib.hid Htm.out.lt
      go_loopg [8] N (fun q v w2 => ∃ n g, q + n = N ∧ v = .slice (some ⟨g, 0, none⟩) (seqK 1 n).length (seqK 1 n).length ∧ FI wm wm.heap.size (w.heap.size + 1) k 1 L n g w2)
      case atStart => exact ⟨0, g1, by omega, rfl, Hfi.out⟩
      case round =>
        obtain ⟨n, g, hq, rfl, hfi⟩ := hrel
        have hn : n ≤ 60 := by have := HN.out.1; omega
        have hlk := hfi.look (by omega) (by omega)
        have hcv := hfi.conv
        have hlen := seqK_len (kind := 1) (by omega) (show n ≤ 61 by omega)
        have hnx := next_any 1 wm.heap.size g (seqK 1 n) (by omega) (by omega) wr hfi.bs
        rw [nxt_seq (by omega) hn] at hnx
        have Hfi := Lib.hid hfi; clear hfi
        have hsz := Lib.hid Hfi.out.below.size
        by_cases hlt : n < N
        · rw [decide_eq_true (HN.out.2.2 n hlt)] at hlk
          clear hlen
          go_wp2_with (first
            | (go_at_call 48; refine hnx.mono ?_; rintro e w3 ⟨g3, rfl, hb3, hw3⟩; have Hb3 := Lib.hid hb3; have Hw3 := Lib.hid hw3; clear hb3 hw3))
          go_roundg (N - (n + 1))
          case measure => omega
          case rel => exact ⟨n + 1, g3, by omega, rfl, Hb3.out, Hfi.out.tm.at (Hw3.out.block _ Hmlt.out), Hfi.out.below.trans Hw3.out⟩
        · obtain rfl : n = N := by omega
          rw [decide_eq_false HN.out.2.1] at hlk
          clear hlen hnx
          have Hb := Lib.hid (Hblk.out.below Hfi.out.below)
          go_wp2_with (first
            | ((with_reducible refine at_store ?_); refine wpList_store_row rfl 36 (.tmp 4) (.tmp 47) rfl _ _ rfl rfl _ _ Hb.out (by kernel_rfl) (by kernel_rfl) (by kernel_rfl) ?_))
          exact bodyPost_ret (results_cell_row rfl _ _ w.heap.size 36 _ (0, 0) _ rfl (setRow_heap _ _ _ _ _ _ Hb.out) rfl rfl (by kernel_rfl)) rfl ⟨rfl, below_setRow (Hbel.out.trans (Hfi.out.below.mono Hbel.out.size)) (Nat.le_refl _) _⟩

set_option maxRecDepth 100000 in
set_option maxHeartbeats 8000000 in
theorem freshKeyN (kind : Int) (h0 : kind ≠ 0) (h1 : kind ≠ 1) (v : Value) (w : World) :
    Calls Try.prog 33 #[.int .i64 kind, v] w fun e w' => e = .returned (.agg #[.int .i64 0, .string ⟨#[]⟩]) ∧ Below w.heap.size w w' := by
  have d0 : (kind != 0) = true := by simpa using h0
  have d1 : (kind != 1) = true := by simpa using h1
  clear h0 h1
  have Hb := Lib.hid (Blk.new w 0 ⟨#[]⟩)
  have HB := Lib.hid ((Below.refl w.heap.size w).alloc (Nat.le_refl _) (.cells #[.int .i64 0, .string ⟨#[]⟩] 36))
  go_enter Try.func33, Try.ntmps33
  go_upto_region 1 with fail
  generalize w.alloc (.cells #[.int .i64 0, .string ⟨#[]⟩] 36) = w1 at *
  go_wp2_with (first
    | ((with_reducible refine at_store ?_); refine wpList_store_row rfl 36 (.tmp 4) (.tmp 15) rfl _ _ rfl rfl _ _ Hb.out (by kernel_rfl) (by kernel_rfl) (by kernel_rfl) ?_))
  exact bodyPost_ret (results_cell_row rfl _ _ w.heap.size 36 _ (0, 0) _ rfl (setRow_heap _ _ _ _ _ _ Hb.out) rfl rfl (by kernel_rfl)) rfl ⟨rfl, below_setRow HB.out (Nat.le_refl _) _⟩
end Go.Proofs.Ytejiagmfinhjbaa
