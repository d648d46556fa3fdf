/-
  Walks: FreshAtom, FreshKey.
-/
import Derived.Test.YtejiagmfinhjbaaDoorIg
import Derived.Maps.OwnSet
import Derived.Maps.Views
import Derived.Deep.LoopGhost
namespace Go.Proofs.YtejiagmfinhjbaaDoor
open Go.RowKit Go.Ident Go.Maps

theorem zero4 (w : World) : (zeroValue 4).run Tryd.prog w = .ok (.bool false) w := by kernel_rfl
theorem key9 {k : ByteArray} (h : k.size ≤ maxLen) : keyOf Tryd.prog 9 (.string k) = some (.string k.data.toList) := Go.WideMaps.keyOf_string_mk (by kernel_rfl) h
theorem keyed9 : Maps.Keyed Tryd.prog 9 := Maps.string_keyed (by kernel_rfl)
theorem elem4 (x : Bool) : plainElem (H := Unit) Tryd.prog 4 (.bool x) = some (.lit (.bool x), []) := plainElem_bool (by kernel_rfl) x
theorem elem4_inv {v : Value} {z : DataW Unit × List MemPlace} (h : plainElem (H := Unit) Tryd.prog 4 v = some z) : ∃ x, v = .bool x ∧ z.1 = .lit (.bool x) := by
  unfold plainElem at h
  rw [show Tryd.prog.underlying 4 = some .bool by kernel_rfl] at h
  cases v <;> simp at h
  exact ⟨_, rfl, by rw [← h]⟩
/-- Block b is a map of at most n names, and the names of l are those that are true in it. -/
def TM (w : World) (b n : Nat) (l : List (List UInt8)) : Prop :=
  ∃ D : DataW Unit, w.ownsMap Tryd.prog 9 (plainElem Tryd.prog 4) b n D ∧ ∀ k : List UInt8, D.atKey (.string k) (.lit (.bool false)) = .lit (.bool (decide (k ∈ l)))
theorem TM.start (w : World) : TM (w.alloc (.map #[] 0)) w.heap.size 0 [] := ⟨_, World.ownsMap_made _ _ _ _, fun k => by simp; rfl⟩
theorem TM.step {w w1 : World} {b n : Nat} {l : List (List UInt8)} {s : List UInt8} {D : DataW Unit} (ho : w.ownsMap Tryd.prog 9 (plainElem Tryd.prog 4) b n D) (hD : ∀ k : List UInt8, D.atKey (.string k) (.lit (.bool false)) = .lit (.bool (decide (k ∈ l))))
    (h : w1.ownsMap Tryd.prog 9 (plainElem Tryd.prog 4) b (n + 1) (D.put (.string s) (.lit (.bool true)))) : TM w1 b (n + 1) (l ++ [s]) := by
  refine ⟨_, h, fun k => ?_⟩
  by_cases hk : k = s
  · subst hk
    rw [atKey_put_same (k := .string k) ho.isMap trivial]
    simp
  · rw [atKey_put_other (by simpa using hk), hD]
    simp [hk]
theorem TM.look {w : World} {b n : Nat} {l : List (List UInt8)} (h : TM w b n l) {s : ByteArray} (hs : s.size ≤ maxLen) : (Instr.lookup 66 (.map (some b)) (.string s) false).run Tryd.prog w = .ok (.bool (decide (s.data.toList ∈ l))) w := by
  obtain ⟨D, ho, hD⟩ := h
  obtain ⟨v, ps, hrun, hv⟩ := World.ownsMap.lookup (t := 66) (e := 4) ho keyed9 (by kernel_rfl) (zero4 w) (elem4 false) (key9 hs)
  rw [hD] at hv
  obtain ⟨x, rfl, hx⟩ := elem4_inv hv
  simp only [DataW.lit.injEq, Lit.bool.injEq] at hx
  rw [hrun, hx]
theorem TM.at {w w' : World} {b n : Nat} {l : List (List UInt8)} (h : TM w b n l) (hb : w'.heap[b]? = w.heap[b]?) : TM w' b n l := by
  obtain ⟨D, ⟨es, clock, h1, h2⟩, hD⟩ := h
  exact ⟨D, ⟨es, clock, hb.trans h1, h2⟩, hD⟩
theorem TM.lt {w : World} {b n : Nat} {l : List (List UInt8)} (h : TM w b n l) : b < w.heap.size := by obtain ⟨D, ho, _⟩ := h; exact ho.lt

/-- A slice of strings that came in. -/
structure Strs (w : World) (p : Option Addr) (ss : List ByteArray) : Prop where
  cell : ∀ i (h : i < ss.length), ∃ a o, p = some ⟨a, o, none⟩ ∧ a < w.heap.size ∧ w.cell? ⟨a, o + i, none⟩ = some (.string ss[i])
  size : ∀ i (h : i < ss.length), ss[i].size ≤ maxLen
def bys (ss : List ByteArray) : List (List UInt8) := ss.map fun s => s.data.toList

/-- What the second loop has. -/
structure FI (w : World) (base mb m kind : Nat) (L : List (List UInt8)) (n g : Nat) (wr : World) : Prop where
  bs : BS base g (seqK kind n) wr
  tm : TM wr mb m L
  below : Below base w wr
theorem FI.conv {w wr : World} {base mb m kind n g : Nat} {L : List (List UInt8)} (h : FI w base mb m kind L n g wr) :
    (convert 52 9 (.slice (some ⟨g, 0, none⟩) (seqK kind n).length (seqK kind n).length)).run Tryd.prog wr = .ok (.string ⟨(seqK kind n).toArray⟩) wr := h.bs.conv
theorem FI.look {w wr : World} {base mb m kind n g : Nat} {L : List (List UInt8)} (h : FI w base mb m kind L n g wr) (hk : kind ≤ 1) (hn : n ≤ 61) :
    (Instr.lookup 66 (.map (some mb)) (.string ⟨(seqK kind n).toArray⟩) false).run Tryd.prog wr = .ok (.bool (decide (seqK kind n ∈ L))) wr := by
  have := seqK_len hk hn
  exact h.tm.look (s := ⟨(seqK kind n).toArray⟩) (by show (seqK kind n).toArray.size ≤ _; unfold maxLen; simp; omega)

set_option maxRecDepth 100000 in
set_option maxHeartbeats 8000000 in
theorem freshAtom_any (p : Option Addr) (cap : Nat) (ss : List ByteArray) (hss : ss.length ≤ 60) (w : World) (hst : Strs w p ss) :
    Calls Tryd.prog 21 #[.slice p ss.length cap] w fun e w' => e = .returned (.string ⟨(fre 0 (bys ss)).toArray⟩) ∧ Below w.heap.size w w' := by
  have hmm := @run_makeMap Tryd.prog
  have Hst := Lib.hid hst; clear hst
  obtain ⟨m, hm⟩ : ∃ m, m = ss.length := ⟨_, rfl⟩
  rw [← hm]
  have hmb : m ≤ 60 := by omega
  have Hm := Lib.hid hm; clear hm hss
  have hfre : fre 0 (bys ss) = seqK 0 (freN 0 (bys ss)) := rfl
  have hN := freN_spec (kind := 0) (by omega) (used := bys ss) (by simp [bys]; have := Hm.out; omega)
  rw [hfre]
  have HN := Lib.hid hN; clear hN hfre
  generalize freN 0 (bys ss) = N at *
  go_enter Tryd.func21, Tryd.ntmps21
  go_wp2
  have hT := TM.start w
  have hW := (Below.refl w.heap.size w).alloc (Nat.le_refl _) (.map #[] 0)
  have HT := Lib.hid hT; have HW := Lib.hid hW; clear hT hW
  clear hmm
  go_loopw [10] (fun i wr => ∃ k : Nat, k ≤ m ∧ i = .int .i64 k ∧ TM wr w.heap.size k (bys (ss.take k)) ∧ Below w.heap.size w wr) (fun i _ => m - (intOf i).toNat)
  case atStart => exact ⟨0, by omega, rfl, by simpa [bys] using HT.out, HW.out⟩
  case round =>
    obtain ⟨k, hk, rfl, ht, hw⟩ := hrel
    have Hw := Lib.hid hw; clear hw
    by_cases hlt : k < m
    · obtain ⟨a, o, rfl, ha, hc⟩ := Hst.out.cell k (by rw [← Hm.out]; exact hlt)
      have hsz := Hst.out.size k (by rw [← Hm.out]; exact hlt)
      have hst : bys (ss.take (k + 1)) = bys (ss.take k) ++ [(ss[k]'(by rw [← Hm.out]; exact hlt)).data.toList] := by
        unfold bys; rw [List.take_succ_eq_append_getElem (by rw [← Hm.out]; exact hlt), List.map_append]; rfl
      have c0 := (Hw.out.cell ha).trans hc
      clear hc
      obtain ⟨s, hs⟩ : ∃ s, s = (ss[k]'(by rw [← Hm.out]; exact hlt)) := ⟨_, rfl⟩
      rw [← hs] at hsz hst c0
      obtain ⟨D, ho, hD⟩ := ht
      have Ho := Lib.hid ho; clear ho hs
      have Hstep := Lib.hid hst; clear hst
      have Hsz := Lib.hid hsz; clear hsz
      have HD := Lib.hid hD; clear hD
      go_wp2_with (first
        | (at_mapUpdate; refine wpList_mapUpdate_own _ rfl (.tmp 14) (.tmp 15) (.const (.bool true)) 66 rfl 9 4 keyed9 (by kernel_rfl) (plainElem Tryd.prog 4) w.heap.size k D rfl Ho.out (by unfold maxLen; have := Hm.out; omega) (.string s) (.bool true) _ rfl rfl (key9 Hsz.out) _ [] (elem4 true) ?_; intro w1 hown1 hgrow1; have Ho1 := Lib.hid hown1; have Hg1 := Lib.hid hgrow1; clear hown1 hgrow1))
      exact ⟨⟨k + 1, by omega, by go_num, by rw [Hstep.out]; exact TM.step Ho.out HD.out Ho1.out, Hw.out.grown Hg1.out Hw.out.size (fun _ h => by cases h; exact Nat.le_refl _)⟩, by simp [intOf]; omega⟩
    · obtain rfl : k = m := by omega
      have hall : bys (ss.take k) = bys ss := by rw [Hm.out, List.take_length]
      rw [hall] at ht
      have Ht := Lib.hid ht; clear ht
      clear hall
      generalize bys ss = L at *
      generalize wr = wm at *
      have hL1 := lowest_any 0 1 (by omega) (by omega) wm
      go_wp2_with (first
        | (go_at_call 44; refine hL1.mono ?_; rintro e w1 ⟨g1, rfl, hb1, hw1⟩; have Hb1 := Lib.hid hb1; have Hw1 := Lib.hid hw1; clear hb1 hw1))
      have hmlt := Ht.out.lt
      have hfi : FI wm wm.heap.size w.heap.size k 0 L 0 g1 w1 := ⟨Hb1.out, Ht.out.at (Hw1.out.block _ hmlt), Hw1.out⟩
      have Hfi := Lib.hid hfi; clear hfi hL1
      have Hmlt := Lib.hid hmlt; clear hmlt
      go_loopg [6] N (fun q v w2 => ∃ n g, q + n = N ∧ v = .slice (some ⟨g, 0, none⟩) (seqK 0 n).length (seqK 0 n).length ∧ FI wm wm.heap.size w.heap.size k 0 L n g w2)
      case atStart => exact ⟨0, g1, by omega, rfl, Hfi.out⟩
      case round =>
        obtain ⟨n, g, hq, rfl, hfi⟩ := hrel
        have hn : n ≤ 60 := by have := HN.out.1; omega
        have hlk := hfi.look (by omega) (by omega)
        have hcv := hfi.conv
        have hlen := seqK_len (kind := 0) (by omega) (show n ≤ 61 by omega)
        have hnx := next_any 0 wm.heap.size g (seqK 0 n) (by omega) (by omega) wr hfi.bs
        rw [nxt_seq (by omega) hn] at hnx
        have Hfi := Lib.hid hfi; clear hfi
        have hsz := Lib.hid Hfi.out.below.size
        by_cases hlt : n < N
        · rw [decide_eq_true (HN.out.2.2 n hlt)] at hlk
          clear hlen
          go_wp2_with (first
            | (go_at_call 45; refine hnx.mono ?_; rintro e w3 ⟨g3, rfl, hb3, hw3⟩; have Hb3 := Lib.hid hb3; have Hw3 := Lib.hid hw3; clear hb3 hw3))
          go_roundg (N - (n + 1))
          case measure => omega
          case rel => exact ⟨n + 1, g3, by omega, rfl, Hb3.out, Hfi.out.tm.at (Hw3.out.block _ Hmlt.out), Hfi.out.below.trans Hw3.out⟩
        · obtain rfl : n = N := by omega
          rw [decide_eq_false HN.out.2.1] at hlk
          clear hlen hnx
          go_wp2
          go_ret
          exact ⟨rfl, Hw.out.trans (Hfi.out.below.mono Hw.out.size)⟩

end Go.Proofs.YtejiagmfinhjbaaDoor
