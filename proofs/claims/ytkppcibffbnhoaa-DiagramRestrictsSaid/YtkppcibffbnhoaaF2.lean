/-
  Walks: Evaluate.
-/
import Derived.Test.YtkppcibffbnhoaaF1
namespace Go.Proofs.Ytkppcibffbnhoaa
open Go.RowKit
set_option maxRecDepth 100000
set_option maxHeartbeats 4000000 in
theorem eval_in (p : Option Addr) (cap : Nat) (N : List IT) (r a : Nat) (w : World) (hni : NI w p N) (hS : SafeN N) (hr : r < N.length + 2) (hN : N.length ≤ 65536) (ha : a < 18446744073709551616)
    (hs : ∀ wx, Below w.heap.size w wx → Calls Try.prog 42 #[.agg #[.slice p N.length cap, .int .i64 r]] wx fun e w' => e = .returned (.agg #[.slice p N.length cap, .int .i64 r]) ∧ Below wx.heap.size wx w') :
    Calls Try.prog 17 #[.agg #[.slice p N.length cap, .int .i64 r], .int .u64 a] w (WR N a r w) := by
  have hA := (Below.refl w.heap.size w).alloc (Nat.le_refl _) (.cells #[.slice p N.length cap, .int .i64 r] 24)
  have hnA := heap_alloc_new w (.cells #[.slice p N.length cap, .int .i64 r] 24)
  have Hni0 := Lib.hid hni; clear hni
  have HS := Lib.hid hS; clear hS
  have Hs := Lib.hid hs; clear hs
  go_enter Try.func17, Try.ntmps17
  have HA := Lib.hid hA; have HnA := Lib.hid hnA
  clear hA hnA
  go_upto_region 2 with (first
    | (go_at_call 42; refine (Hs.out _ HA.out).mono ?_; rintro e w2 ⟨rfl, hb2⟩; have Hb2 := Lib.hid hb2; have Hn2 := Lib.hid ((hb2.block _ (heap_lt HnA.out)).trans HnA.out); clear hb2)
    | (with_reducible refine wpList_store_row rfl 24 (.tmp 2) (.tmp 8) rfl _ _ rfl rfl _ _ Hn2.out (by kernel_rfl) (by kernel_rfl) (by kernel_rfl) ?_))
  have h3 := setRow_heap w2 w.heap.size _ #[.slice p N.length cap, .int .i64 r] 24 _ Hn2.out
  have b3 := below_setRow (cells := #[.slice p N.length cap, .int .i64 r]) (HA.out.step Hb2.out) (Nat.le_refl _)
  clear HA HnA Hb2 Hn2
  generalize w2.setRow w.heap.size #[.slice p N.length cap, .int .i64 r] = w3 at *
  obtain ⟨c0, c1, -⟩ := cells2 h3
  have H3 := Lib.hid h3; have B3 := Lib.hid b3
  clear h3 b3
  go_wp2
  clear c0 c1
  go_loopw [5] (fun i wr => ∃ (q : Nat), i = .int .i64 q ∧ q < N.length + 2 ∧ Left N a r q ∧ wr.heap[w.heap.size]? = some (.cells #[.slice p N.length cap, .int .i64 r] 24) ∧ Below w.heap.size w wr) (fun i _ => (intOf i).toNat)
  case atStart => exact ⟨r, rfl, hr, Left.refl _ _ _, H3.out, B3.out⟩
  case round =>
    obtain ⟨q, rfl, hq, hl, hd, hb⟩ := hrel
    have hni := Hni0.out.below hb
    obtain ⟨d0, d1, -⟩ := cells2 hd
    by_cases hlt : 1 < q
    · obtain ⟨k, rfl⟩ : ∃ k, q = k + 2 := ⟨q - 2, by omega⟩
      have hk : k < N.length := by omega
      obtain ⟨ab, off, rfl, hab, x0, x1, x2⟩ := hni k hk
      obtain ⟨s1, s2, s3⟩ := HS.out k hk
      have hst := fun (l h j : Nat) (e : N[k] = ((l : Int), (h : Int), (j : Int))) => hl.step hk e
      generalize N[k] = x at *
      obtain ⟨l, h, j⟩ := x
      dsimp only at x0 x1 x2 s1 s2 s3
      obtain ⟨l, rfl⟩ : ∃ n : Nat, l = (n : Int) := ⟨l.toNat, by omega⟩
      obtain ⟨h, rfl⟩ : ∃ n : Nat, h = (n : Int) := ⟨h.toNat, by omega⟩
      obtain ⟨j, rfl⟩ : ∃ n : Nat, j = (n : Int) := ⟨j.toNat, by omega⟩
      have hst' := hst l h j rfl
      clear hst hl
      have Hst := Lib.hid hst'; clear hst'
      have hbit := bit_eq a l ha
      have hal := (Below.refl wr.heap.size wr).alloc (Nat.le_refl _) (.cells #[.int .i64 l, .int .i64 h, .int .i64 j] 32)
      have Hd := Lib.hid ((hal.block _ (heap_lt hd)).trans hd)
      have Hbl := Lib.hid (hb.step hal)
      clear hd hal hb hni
      cases hbt : a.testBit l with
      | true =>
        rw [hbt] at hbit Hst
        go_wp2
        exact ⟨⟨h, rfl, by omega, Hst.out, Hd.out, Hbl.out⟩, by simp [intOf]; omega⟩
      | false =>
        rw [hbt] at hbit Hst
        go_wp2
        exact ⟨⟨j, rfl, by omega, Hst.out, Hd.out, Hbl.out⟩, by simp [intOf]; omega⟩
    · have hres : ∀ L, Wf L → N = cN (nodes L) → decide ((q : Int) = 1) = (tr L r).ev (bitsF a) := fun L wL hN => by
        rw [hl L wL hN]
        obtain rfl | rfl : q = 0 ∨ q = 1 := by omega
        · rfl
        · rfl
      have HR := Lib.hid hres
      clear hres hl
      have Hb := Lib.hid hb; clear hb
      obtain rfl | rfl : q = 0 ∨ q = 1 := by omega
      · go_wp2
        go_ret
        exact WR.mk HR.out Hb.out
      · go_wp2
        go_ret
        exact WR.mk HR.out Hb.out

theorem Wf.safe {L : List T} (w : Wf L) : SafeN (cN (nodes L)) := by
  intro k hk
  have hkL : k < L.length := by simpa [cN, nodes] using hk
  obtain ⟨l, h, j, hx⟩ := w.nc L[k] (List.getElem_mem hkL)
  have hm : T.n l h j ∈ L := hx ▸ List.getElem_mem hkL
  obtain ⟨c1, c2⟩ := w.closed k l h j (by rw [List.getElem?_eq_getElem hkL, hx])
  have e : (cN (nodes L))[k] = castT (enc L L[k]) := by simp [cN, nodes]
  have hl := lit_lt (w.ok _ hm)
  rw [e, hx]
  simp only [enc, castT]
  have r1 := ref_take c1
  have r2 := ref_take c2
  have q1 := ref_lt c1
  have q2 := ref_lt c2
  rw [List.length_take] at q1 q2
  omega
theorem evaluate_any (v : Value) (t : T) (a : Nat) (ha : a < 18446744073709551616) (w : World) (h : DV w v t) : Calls Try.prog 17 #[v, .int .u64 a] w fun e w' => e = .returned (.bool (t.ev (bitsF a))) ∧ Below w.heap.size w w' := by
  obtain ⟨p, cap, rfl, hns⟩ := id h.dd.ex
  obtain ⟨wf, iL⟩ := canon_wf h.ok
  have hlen : (cN (canonN t)).length = (canonN t).length := cN_length _
  have hs := fun wx (hw : Below w.heap.size w wx) => sound_tree _ t wx (h.below hw)
  have hr := ref_lt iL
  have hcl := canon_len h.ok
  have hlL := nodes_length (canonL t)
  have hlL2 : (canonN t).length = (canonL t).length := hlL
  rw [← hlen] at hs ⊢
  refine (eval_in p cap (cN (canonN t)) (canonR t) a w hns.ni wf.safe (by rw [hlen]; show ref _ _ < _; omega) (by omega) ha hs).mono ?_
  rintro e w' ⟨b, rfl, hb, hw⟩
  rw [hb (canonL t) wf rfl]
  refine ⟨?_, hw⟩
  show _ = Ending.returned (.bool (t.ev (bitsF a)))
  rw [show tr (canonL t) (canonR t) = t from tr_ref iL]
end Go.Proofs.Ytkppcibffbnhoaa
