/-
  Walks: Table.
-/
import Derived.Test.YtkppcibffbnhoaaH1
namespace Go.Proofs.Ytkppcibffbnhoaa
open Go.RowKit
set_option maxRecDepth 100000

/-- A table that says what a diagram says. -/
def KR (f : Nat → Bool) (w : World) (e : Ending) (w' : World) : Prop := ∃ b, e = .returned (.slice (some ⟨b, 0, none⟩) 4096 4096) ∧ TB w' b f ∧ Below w.heap.size w w'

set_option maxHeartbeats 8000000 in
theorem table_in (p : Option Addr) (cap : Nat) (N : List IT) (r : Nat) (L : List T) (wL : Wf L) (hNL : N = cN (nodes L)) (w : World) (hni : NI w p N) (hS : SafeN N) (hr : r < N.length + 2) (hN : N.length ≤ 65536) (hgood : Good N r) :
    Calls Try.prog 18 #[.agg #[.slice p N.length cap, .int .i64 r]] w (KR (fun m => (tr L r).ev (bitsF m)) w) := by
  have hA := (Below.refl w.heap.size w).alloc (Nat.le_refl _) (.cells #[.slice p N.length cap, .int .i64 r] 24)
  have hnA := heap_alloc_new w (.cells #[.slice p N.length cap, .int .i64 r] 24)
  have Hni0 := Lib.hid hni; clear hni
  have HS := Lib.hid hS; clear hS
  have Hg0 := Lib.hid hgood; clear hgood
  have WL := Lib.hid wL; have HNL := Lib.hid hNL; clear wL hNL
  have hmk := make_table
  go_enter Try.func18, Try.ntmps18
  go_upto_region 1 with fail
  have HA := Lib.hid hA; have HnA := Lib.hid hnA
  clear hA hnA
  generalize w.alloc (.cells #[.slice p N.length cap, .int .i64 r] 24) = w2 at *
  go_upto_region 2 with fail
  have hal := (Below.refl w2.heap.size w2).alloc (Nat.le_refl _) (.cells (madeCells #[.bool false] 4096) 4)
  have htb := TB.made w2
  have hn3 := (hal.block _ (heap_lt HnA.out)).trans HnA.out
  have hb3 := HA.out.step hal
  have hlt2 := heap_lt HnA.out
  clear hal
  generalize w2.alloc (.cells (madeCells #[.bool false] 4096) 4) = w3 at *
  have Htb := Lib.hid htb; have Hn3 := Lib.hid hn3; have Hb3 := Lib.hid hb3
  clear htb hn3 hb3
  have hbt : w.heap.size < w2.heap.size := by omega
  clear HA HnA
  generalize w2.heap.size = bt at *
  have hv := validd_any p cap N (r : Int) w3 (Hni0.out.below Hb3.out) hN
  have Hv := Lib.hid hv; clear hv
  obtain ⟨d0, d1, -⟩ := cells2 Hn3.out
  go_upto_region 4 with (go_at_call 12; refine Hv.out.mono ?_; rintro e w4 ⟨b, rfl, hb, hb4⟩; obtain rfl := hb.2 Hg0.out; have Hn4 := Lib.hid ((hb4.block _ (heap_lt Hn3.out)).trans Hn3.out); have Htb4 := Lib.hid (show TB w4 bt _ from by (obtain ⟨tc, t1, t2⟩ := Htb.out.ex; exact Htb.out.at (hb4.block _ (heap_lt t1)))); have Hb4 := Lib.hid (Hb3.out.step hb4); clear hb hb4)
  clear d0 d1 Hv Hn3 Htb Hb3
  go_wp2
  go_loopw [4] (fun i wr => ∃ (k : Nat) (g : Nat → Bool), i = .int .i64 k ∧ k ≤ 4096 ∧ TB wr bt g ∧ (∀ m, m < k → ∀ L, Wf L → N = cN (nodes L) → g m = (tr L r).ev (bitsF m)) ∧ wr.heap[w.heap.size]? = some (.cells #[.slice p N.length cap, .int .i64 r] 24) ∧ Below w.heap.size w wr) (fun i _ => 4096 - (intOf i).toNat)
  case atStart => exact ⟨0, _, rfl, by omega, Htb4.out, fun m hm => by omega, Hn4.out, Hb4.out⟩
  clear Htb4 Hn4 Hb4
  case round =>
    obtain ⟨k, g, rfl, hk, htb, hg, hd, hb⟩ := hrel
    have Hg := Lib.hid hg; have Htb := Lib.hid htb; have Hd := Lib.hid hd; have Hb := Lib.hid hb
    clear hg htb hd hb
    have hni := Hni0.out.below Hb.out
    obtain ⟨d0, d1, -⟩ := cells2 Hd.out
    by_cases hlt : k < 4096
    · have hw := walk_any p cap N r k wr hni HS.out hr hN (by omega)
      clear hni
      go_wp2_with (go_at_call 36; refine hw.mono ?_; rintro e w4 ⟨b, rfl, h1, hb4⟩; have H1 := Lib.hid h1; have Hd4 := Lib.hid ((hb4.block _ (heap_lt Hd.out)).trans Hd.out); have Htb4 := Lib.hid (show TB w4 bt g from by (obtain ⟨tc, t1, t2⟩ := Htb.out.ex; exact Htb.out.at (hb4.block _ (heap_lt t1)))); have hc4 := Htb4.out.cell hlt; have hz4 := Htb4.out.free k; have Hb4 := Lib.hid (Hb.out.step hb4); clear h1 hb4)
      obtain ⟨ht5, hU⟩ := Htb4.out.set hlt b
      refine ⟨⟨k + 1, _, by go_num, by omega, ht5, ?_, (hU.other _ (by omega)).trans Hd4.out, Hb4.out.trans (hU.below (by omega))⟩, by simp [intOf]; omega⟩
      intro m hm L wL hN2
      split
      · rename_i e; subst e; exact H1.out L wL hN2
      · exact Hg.out m (by omega) L wL hN2
    · obtain rfl : k = 4096 := by omega
      go_wp2
      go_ret
      obtain ⟨tc, t1, t2⟩ := Htb.out.ex
      exact ⟨bt, rfl, ⟨tc, t1, fun m hm => by rw [← Hg.out m hm L WL.out HNL.out]; exact t2 m hm⟩, Hb.out⟩

theorem table_any (v : Value) (t : T) (w : World) (h : DV w v t) : Calls Try.prog 18 #[v] w (KR (fun m => t.ev (bitsF m)) w) := by
  obtain ⟨p, cap, rfl, hns⟩ := id h.dd.ex
  obtain ⟨wf, iL⟩ := canon_wf h.ok
  have hlen : (cN (canonN t)).length = (canonN t).length := cN_length _
  have hr := ref_lt iL
  have hcl := canon_len h.ok
  have hlL2 : (canonN t).length = (canonL t).length := nodes_length (canonL t)
  rw [← hlen]
  have := table_in p cap (cN (canonN t)) (canonR t) (canonL t) wf rfl w hns.ni wf.safe (by rw [hlen]; show ref _ _ < _; omega) (by omega) ⟨t, h.ok, rfl, rfl⟩
  rwa [show tr (canonL t) (canonR t) = t from tr_ref iL] at this
theorem evaluate_low (t : T) (o : t.Ok) (a : Nat) : t.ev (bitsF (a &&& 4095)) = t.ev (bitsF a) := by
  refine ev_congr o fun i _ hi => ?_
  simp only [bitsF, Nat.testBit_and]
  rw [show (4095 : Nat) = 2 ^ 12 - 1 from rfl, Nat.testBit_two_pow_sub_one]
  simp [hi]
end Go.Proofs.Ytkppcibffbnhoaa
