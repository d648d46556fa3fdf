/-
  Walks: the builder's finish.
-/
import Derived.Test.YtkppcibffbnhoaaC3
namespace Go.Proofs.Ytkppcibffbnhoaa
open Go.RowKit

theorem at_insert {P : Program} {ops : Array Oper} {rest : List Oper} {a : Act} {w : World} {Q : Exit → Act → World → Prop} {d : Option Tmp} {t T : TypeId} {m k x : Operand} {pos : String} {after : Array Edge} {g : Option (Nat × Bool)}
    (h : wpList P ops Q (⟨d, Op.insert t m k x, T, pos, after, g⟩ :: rest) a w) : wpList P ops Q (⟨d, Op.insert t m k x, T, pos, after, g⟩ :: rest) a w := h

set_option maxRecDepth 100000 in
set_option maxHeartbeats 16000000 in
theorem finish_any (B b kb : Nat) (v : Value) (L : List T) (t : T) (w : World) (hB : BD w B b kb v (nodes L)) (wL : Wf L) (hL : L.length ≤ 60000000) (iL : inn L t) (ot : t.Ok) :
    Calls Try.prog 33 #[.pointer (some ⟨b, 0, none⟩), .int .i64 (ref L t)] w fun e w' => ∃ dv, e = .returned dv ∧ DV w' dv t ∧ Below w.heap.size w w' := by
  obtain ⟨np, ncap, rfl⟩ := own_slice hB.own
  have hmm := @run_makeMap Try.prog
  have hmf : ∀ (fn : Fn) (first cap : Array Value) (w : World), (Instr.makeFunc fn first cap).run Try.prog w = .ok (.func fn first cap) w := fun _ _ _ _ => rfl
  have HB := Lib.hid hB; clear hB
  generalize hr : ref L t = r at *
  have Hr := Lib.hid hr; clear hr
  have hbl := heap_lt HB.out.blk
  go_enter Try.func33, Try.ntmps33
  go_upto_region 2 with fail
  have hA1 := (Below.refl w.heap.size w).alloc (Nat.le_refl _) (.cells #[.pointer (some ⟨b, 0, none⟩)] 58)
  have hn1 := heap_alloc_new w (.cells #[.pointer (some ⟨b, 0, none⟩)] 58)
  have hs1 : (w.alloc (.cells #[.pointer (some ⟨b, 0, none⟩)] 58)).heap.size = w.heap.size + 1 := by simp
  generalize w.alloc (.cells #[.pointer (some ⟨b, 0, none⟩)] 58) = w1 at *
  have hA2 := (Below.refl w1.heap.size w1).alloc (Nat.le_refl _) (.cells #[.slice none 0 0, .int .i64 0] 24)
  have hn2 := heap_alloc_new w1 (.cells #[.slice none 0 0, .int .i64 0] 24)
  have hs2 : (w1.alloc (.cells #[.slice none 0 0, .int .i64 0] 24)).heap.size = w1.heap.size + 1 := by simp
  generalize w1.alloc (.cells #[.slice none 0 0, .int .i64 0] 24) = w2 at *
  have hA3 := (Below.refl w2.heap.size w2).alloc (Nat.le_refl _) (.cells #[.slice none 0 0] 22)
  have hn3 := heap_alloc_new w2 (.cells #[.slice none 0 0] 22)
  have hs3 : (w2.alloc (.cells #[.slice none 0 0] 22)).heap.size = w2.heap.size + 1 := by simp
  generalize w2.alloc (.cells #[.slice none 0 0] 22) = w3 at *
  rw [hs1] at hn2 hA2 hs2
  rw [hs2] at hn3 hA3 hs3
  have hM0 : MV (w3.alloc (.map #[] 0)) 3 lit1 good1 w3.heap.size 0 fun _ => none := MV.made w3 3 lit1 good1
  have HM0 := Lib.hid hM0; clear hM0
  have HA := Lib.hid hs3; clear hs3
  have H1 := Lib.hid hs1; have H2 := Lib.hid hs2; clear hs1 hs2
  go_upto_region 3 with (first
    | ((with_reducible refine at_insert ?_); refine wpList_mv_put code1 (by kernel_rfl) _ rfl _ _ _ (.inr rfl) w3.heap.size 0 (fun _ => none) rfl HM0.out (by omega) 0 (show 0 ≤ _ by omega) rfl 0 rfl (by decide) ?_; intro w5 hm5 ht5; have Hm5 := Lib.hid hm5; clear hm5; have Ht5 := Lib.hid ht5; clear ht5)
    | ((with_reducible refine at_insert ?_); (refine wpList_mv_put code1 (by kernel_rfl) _ rfl _ _ _ (.inr rfl) w3.heap.size 1 _ rfl Hm5.out (by omega) 1 (show 1 ≤ _ by omega) rfl 1 rfl (by decide) ?_; intro w6 hm6 ht6; have Hm6 := Lib.hid hm6; clear hm6; have Ht6 := Lib.hid ht6; clear ht6)))
  go_upto_region 5 with fail
  have hm6 := Hm6.out
  have hp6 := hm6.lt
  have hk36 : ∀ k, k < w3.heap.size → w6.heap[k]? = w3.heap[k]? := fun k hk => by
    have h5 := Ht5.out.grown.block k (by simp; omega) (by simp; omega)
    have hs5 := Ht5.out.grown.size
    have h6 := Ht6.out.grown.block k (by simp at hs5; omega) (by simp; omega)
    exact h6.trans (h5.trans (((Below.refl _ w3).alloc (Nat.le_refl _) (.map #[] 0)).block k hk))
  have hb36 : Below w3.heap.size w3 w6 := ⟨Ht6.out.grown.os.trans Ht5.out.grown.os, Ht6.out.grown.tape.trans Ht5.out.grown.tape, Ht6.out.grown.output.trans Ht5.out.grown.output, by omega, hk36⟩
  have hb68 := ((Below.refl w6.heap.size w6).alloc (Nat.le_refl _) (.cells #[.map (some w3.heap.size)] 72)).alloc (by simp) (.cells #[.func (.func 52) #[] #[.pointer (some ⟨w6.heap.size, 0, none⟩), .pointer (some ⟨w.heap.size, 0, none⟩), .pointer (some ⟨w6.heap.size + 1, 0, none⟩), .pointer (some ⟨w.heap.size + 1 + 1, 0, none⟩)]] 73)
  have hpv := heap_alloc_new w6 (.cells #[.map (some w3.heap.size)] 72)
  have hs7 : (w6.alloc (.cells #[.map (some w3.heap.size)] 72)).heap.size = w6.heap.size + 1 := by simp
  generalize w6.alloc (.cells #[.map (some w3.heap.size)] 72) = w7 at *
  have hwv := heap_alloc_new w7 (.cells #[.func (.func 52) #[] #[.pointer (some ⟨w6.heap.size, 0, none⟩), .pointer (some ⟨w.heap.size, 0, none⟩), .pointer (some ⟨w6.heap.size + 1, 0, none⟩), .pointer (some ⟨w.heap.size + 1 + 1, 0, none⟩)]] 73)
  have hb78 := (Below.refl w7.heap.size w7).alloc (Nat.le_refl _) (.cells #[.func (.func 52) #[] #[.pointer (some ⟨w6.heap.size, 0, none⟩), .pointer (some ⟨w.heap.size, 0, none⟩), .pointer (some ⟨w6.heap.size + 1, 0, none⟩), .pointer (some ⟨w.heap.size + 1 + 1, 0, none⟩)]] 73)
  have hpv8 := (hb78.block _ (heap_lt hpv)).trans hpv
  rw [hs7] at hwv
  generalize w7.alloc (.cells #[.func (.func 52) #[] #[.pointer (some ⟨w6.heap.size, 0, none⟩), .pointer (some ⟨w.heap.size, 0, none⟩), .pointer (some ⟨w6.heap.size + 1, 0, none⟩), .pointer (some ⟨w.heap.size + 1 + 1, 0, none⟩)]] 73) = w8 at *
  have hsA := HA.out
  have hs1 := H1.out
  have hs2 := H2.out
  have hb38 : Below w3.heap.size w3 w8 := hb36.step hb68
  have hb28 : Below w2.heap.size w2 w8 := by rw [hs2]; exact hA3.trans (hb38.mono (by omega))
  have hb18 : Below w1.heap.size w1 w8 := by rw [hs1]; exact hA2.trans (hb28.mono (by omega))
  have hb08 : Below w.heap.size w w8 := hA1.trans (hb18.mono (by omega))
  have hov8 := (hb38.block _ (heap_lt hn3)).trans hn3
  have hrc8 := (hb28.block _ (heap_lt hn2)).trans hn2
  have hbv8 := (hb18.block _ (heap_lt hn1)).trans hn1
  have hFI : FI w.heap.size ⟨w6.heap.size, w3.heap.size, w.heap.size, b, kb, w6.heap.size + 1, w.heap.size + 1 + 1⟩ np ncap L [] (.slice none 0 0) w8 := by
    refine ⟨hpv8, hbv8, hwv, hov8, ?_, ?_, World.ownsRow_nil _ _ _ _, ?_, wL, Wf.nil, by simp, by show w.heap.size ≤ w.heap.size + 1 + 1; omega, by show w.heap.size ≤ w3.heap.size; omega, hbl⟩
    · have := (hb08.block _ hbl).trans HB.out.blk
      rw [nodes_length] at this
      exact this
    · exact (NS.of_own HB.out.own).nz.below hb08
    · refine (hm6.at (hb68.block _ hp6)).congr fun z _ => ?_
      rw [placeF_start wL]
  have hW := walk52 w.heap.size ⟨w6.heap.size, w3.heap.size, w.heap.size, b, kb, w6.heap.size + 1, w.heap.size + 1 + 1⟩ np ncap L hL t [] _ _ hFI iL
  rw [Hr.out] at hW
  dsimp only at hW
  obtain ⟨wv0, -⟩ := cells1 hwv
  have Hb08 := Lib.hid hb08
  have hrcl : w.heap.size + 1 < w8.heap.size := heap_lt hrc8
  have hpmne : w.heap.size + 1 ≠ w3.heap.size := by omega
  have hZpm : w.heap.size ≤ w3.heap.size := by omega
  clear hb08 hb18 hb28 hb38 hb68 hb78 hb36 hk36 hn1 hn2 hn3 hpv hs7 hA1 hA2 hA3 hFI hpv8 hwv hov8 hbv8 HM0 Hm5 Hm6 Ht5 Ht6 hm6 hp6 hsA hs1 hs2 HA H1 H2
  have Hrc8 := Lib.hid hrc8; clear hrc8
  go_upto_region 6 with (go_at_call 52; refine hW.mono ?_; rintro e w9 ⟨v9, rfl, hF9, hf9⟩; have HF9 := Lib.hid hF9; clear hF9)
  have hrc9 : w9.heap[w.heap.size + 1]? = some (.cells #[.slice none 0 0, .int .i64 0] 24) := (hf9.block _ hrcl (by simp; exact hpmne) (by simp [Value.ownBlock])).trans Hrc8.out
  obtain ⟨p9, q9, rfl⟩ := own_slice HF9.out.own
  obtain ⟨o0, -⟩ := cells1 HF9.out.ov
  dsimp only at o0
  have hb09 : Below w.heap.size w w9 := Hb08.out.trans (hf9.below Hb08.out.size (by simp; omega) (by simp [Value.ownBlock]))
  have Hb09 := Lib.hid hb09; clear hb09
  clear hf9 hW
  have hN : (canonN t).length = (canonL t).length := nodes_length _
  have hown := HF9.out.own
  have Hown := Lib.hid hown; clear hown
  have hg : (ref (vis t []) t : Nat) = canonR t := rfl
  rw [hg]
  clear hg
  have hv : vis t [] = canonL t := rfl
  rw [hv] at Hown o0
  have hne := own_ne Hown.out hrc9 (by decide)
  generalize hcr : canonR t = cr at *
  have Hcr := Lib.hid hcr; clear hcr
  have HN := Lib.hid hN; clear hN
  have Hne := Lib.hid hne; clear hne hv
  go_wp2_with (first
    | (with_reducible refine wpList_store_row rfl 24 (.tmp 4) (.tmp 16) rfl _ _ rfl rfl _ _ hrc9 (by kernel_rfl) (by kernel_rfl) (by kernel_rfl) ?_))
  refine bodyPost_ret (results_cell_row rfl _ _ (w.heap.size + 1) 24 _ (0, 0) _ rfl (setRow_heap _ _ _ _ _ _ hrc9) rfl rfl (by kernel_rfl)) rfl ?_
  have hoz : (w9.setRow (w.heap.size + 1) #[.slice p9 (canonL t).length q9, .int .i64 cr]).ownsRow w.heap.size 32 3 (.slice p9 (canonL t).length q9) (canonL t).length (triCells (nodes (canonL t))) :=
    ownsRow_at Hown.out fun g hg => setRow_other _ _ _ _ fun e => Hne.out (by rw [hg, e])
  have hlen : (nodes (canonL t)).length = (canonL t).length := nodes_length _
  refine ⟨_, rfl, ⟨ot, ⟨⟨p9, q9, by rw [HN.out, Hcr.out], ?_⟩⟩⟩, ?_⟩
  · refine NS.of_own (B := w.heap.size) (cap := q9) ?_
    show World.ownsRow _ _ _ _ (.slice p9 (nodes (canonL t)).length q9) (nodes (canonL t)).length (triCells (nodes (canonL t)))
    rw [hlen]; exact hoz
  · have hb := Hb09.out
    refine ⟨hb.os, hb.tape, hb.output, by rw [size_setRow]; exact hb.size, fun k hk => ?_⟩
    rw [setRow_other _ _ _ _ (by omega)]
    exact hb.block k hk
end Go.Proofs.Ytkppcibffbnhoaa
