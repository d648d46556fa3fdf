/-
  Walks: the builder's finish: the closure that walks, and finish.
-/
import Derived.Test.YtkppcibffbnhoaaC2
namespace Go.Proofs.Ytkppcibffbnhoaa
open Go.RowKit

theorem nodes_at {L : List T} {l : Nat} {h k : T} (hm : T.n l h k ∈ L) : ∃ hi : L.idxOf (T.n l h k) < (nodes L).length, (nodes L)[L.idxOf (T.n l h k)] = (l, ref L h, ref L k) := by
  have h1 := List.idxOf_lt_length_of_mem hm
  have h2 := getElem_idxOf' hm
  rw [List.getElem?_eq_getElem h1, Option.some.injEq] at h2
  exact ⟨by rw [nodes_length]; exact h1, by simp only [nodes, List.getElem_map, h2, enc]⟩

theorem wpList_append_tri2 {ops : Array Oper} {rest : List Oper} {o : Oper} {a : Act} {Q : Exit → Act → World → Prop} (hgd : o.guard = none) (s x : Operand) (t : TypeId)
    (ho : o.op = .call { callee := .builtin .append, args := #[s, x], argTypes := #[t, t] }) (ht : Try.prog.underlying t = some (.slice 32))
    (B : Nat) (wx : World) (g : Nat) (y : Tri) (hg : wx.heap[g]? = some (.cells #[.int .i64 y.1, .int .i64 y.2.1, .int .i64 y.2.2] 32)) (hB : B ≤ wx.heap.size) (v : Value) (n : Nat) (xs : List Value) (hs : a.eval s = v) (hown : wx.ownsRow B 32 3 v n xs) (hn : n ≤ 67108864)
    (hx : a.eval x = .slice (some ⟨g, 0, none⟩) 1 1)
    (h : ∀ v' w', w'.ownsRow B 32 3 v' (n + 1) (xs ++ triC y) → Fr [] v v' wx w' → wpList Try.prog ops Q rest (a.put o.dst v') w') :
    wpList Try.prog ops Q (o :: rest) a wx :=
  wpList_append_fr hgd s x t ho 32 ht tri_info rfl (by decide) (by decide) B wx g (triC y) hg hB rfl (by intro u hu; simp [triC] at hu; rcases hu with rfl | rfl | rfl <;> rfl) v n xs hs hown hn hx h

set_option maxRecDepth 100000 in
set_option maxHeartbeats 16000000 in
theorem walk52 (Z : Nat) (c : FB) (np : Option Addr) (ncap : Nat) (L : List T) (hL : L.length ≤ 60000000) : ∀ (t : T) (M : List T) (v : Value) (w : World), FI Z c np ncap L M v w → inn L t →
    Calls Try.prog 52 #[.int .i64 (ref L t), .pointer (some ⟨c.pv, 0, none⟩), .pointer (some ⟨c.bv, 0, none⟩), .pointer (some ⟨c.wv, 0, none⟩), .pointer (some ⟨c.ov, 0, none⟩)] w fun e w' =>
      ∃ v', e = .returned (.int .i64 (ref (vis t M) t)) ∧ FI Z c np ncap L (vis t M) v' w' ∧ Fr [c.ov, c.pm] v v' w w' := by
  have hit : ∀ (t : T) (M : List T) (v : Value) (w : World), FI Z c np ncap L M v w → inn L t → inn M t →
      Calls Try.prog 52 #[.int .i64 (ref L t), .pointer (some ⟨c.pv, 0, none⟩), .pointer (some ⟨c.bv, 0, none⟩), .pointer (some ⟨c.wv, 0, none⟩), .pointer (some ⟨c.ov, 0, none⟩)] w fun e w' =>
        ∃ v', e = .returned (.int .i64 (ref (vis t M) t)) ∧ FI Z c np ncap L (vis t M) v' w' ∧ Fr [c.ov, c.pm] v v' w w' := by
    intro t M v w hF iL iM
    rw [vis_known iM]
    have hr := ref_lt iL
    have hf := placeF_hit iL iM
    obtain ⟨p0, -⟩ := cells1 hF.pv
    generalize ref L t = r at *
    generalize ref M t = q at *
    have HF := Lib.hid hF; clear hF
    have Hf := Lib.hid hf; clear hf
    go_enter Try.func52, Try.ntmps52
    go_wp2_with (first
      | (at_lookup; refine wpList_mv_look code1 (by kernel_rfl) _ rfl _ _ rfl c.pm (M.length + 2) (placeF L M) rfl HF.out.pl r (show r ≤ _ by omega) rfl ?_; rw [Hf.out]; intro cc hc; obtain rfl := hc _ rfl))
    go_ret
    exact ⟨v, rfl, HF.out, Fr.refl _ _ _⟩
  intro t
  induction t with
  | c b => intro M v w hF iL; exact hit _ M v w hF iL trivial
  | n l h k ihh ihk =>
    intro M v w hF iL
    by_cases hm : T.n l h k ∈ M
    · exact hit _ M v w hF iL hm
    have iLm : T.n l h k ∈ L := iL
    obtain ⟨kh, kk⟩ := hF.wfL.kids iLm
    have ot := hF.wfL.ok _ iLm
    obtain ⟨hidx, hnode⟩ := nodes_at iLm
    have hsz : T.n l h k ∉ vis k (vis h M) := fun hx => by
      rcases vis_new hx with h2 | h2
      · rcases vis_new h2 with h3 | h3
        · exact hm h3
        · simp only [T.sz] at h3; omega
      · simp only [T.sz] at h2; omega
    have hv : vis (T.n l h k) M = vis k (vis h M) ++ [T.n l h k] := by simp only [vis]; rw [if_neg hm]
    obtain ⟨wM1, ⟨E1, e1⟩, i1⟩ := vis_spec (t := h) hF.wfM ot.1
    obtain ⟨wM2, ⟨E2, e2⟩, i2⟩ := vis_spec (t := k) wM1 ot.2.1
    have i12 : inn (vis k (vis h M)) h := by rw [e2]; exact inn_app i1
    have r12 : ref (vis k (vis h M)) h = ref (vis h M) h := by rw [e2]; exact ref_app i1
    have wM3 := wM2.snoc ot i12 i2 hsz
    have hn3 := nodes_snoc (l := l) wM2 i12 i2
    rw [r12] at hn3
    have hres : ref (vis (T.n l h k) M) (T.n l h k) = (vis k (vis h M)).length + 2 := by rw [hv]; simp only [ref]; rw [List.idxOf_append, if_neg hsz]; simp
    have hpf := placeF_snoc (l := l) (h := h) (k := k) hF.wfL wM2 iL hsz
    have hpm := placeF_miss iL (show ¬ inn M (T.n l h k) from hm)
    have hl12 := lit_lt ot
    have rr1 := ref_lt i1
    have rr2 := ref_lt i2
    have rL1 := ref_lt kh
    have rL2 := ref_lt kk
    rw [hres, hv]
    have hrt : ref L (T.n l h k) = L.idxOf (T.n l h k) + 2 := rfl
    rw [hrt] at hpf hpm ⊢
    have hidx2 : L.idxOf (T.n l h k) < L.length := by rw [← nodes_length]; exact hidx
    have ihh' := fun wx (hx : FI Z c np ncap L M v wx) => ihh M v wx hx kh
    have ihk' := fun vx wx (hx : FI Z c np ncap L (vis h M) vx wx) => ihk (vis h M) vx wx hx kk
    clear ihh ihk hit
    obtain ⟨a, o, hnp, haZ, x0, x1, x2⟩ := hF.ns _ hidx
    simp only [hnode] at x0 x1 x2
    generalize L.idxOf (T.n l h k) = idx at *
    generalize hM1 : vis h M = M1 at *
    generalize hM2 : vis k M1 = M2 at *
    generalize ref M1 h = rh at *
    generalize ref M2 k = rk at *
    generalize ref L h = qh at *
    generalize ref L k = qk at *
    obtain ⟨p0, -⟩ := cells1 hF.pv
    obtain ⟨b0, -⟩ := cells1 hF.bv
    obtain ⟨w0, -⟩ := cells1 hF.wv
    obtain ⟨n0, -, -⟩ := cells2 hF.bld
    have hal : Below w.heap.size w (w.alloc (.cells #[.int .i64 l, .int .i64 qh, .int .i64 qk] 32)) := (Below.refl _ _).alloc (Nat.le_refl _) _
    have hnew := heap_alloc_new w (.cells #[.int .i64 l, .int .i64 qh, .int .i64 qk] 32)
    subst hnp
    have HF := Lib.hid hF; clear hF
    have Hpm := Lib.hid hpm; clear hpm
    have Hn3 := Lib.hid hn3
    have HM3 := Lib.hid wM3
    have Hpf := Lib.hid hpf
    clear wM3 hpf
    clear hm hsz hv hres hn3 e1 e2 i1 i2 i12 r12 wM1 wM2 hnode hrt iLm kh kk ot
    go_enter Try.func52, Try.ntmps52
    go_upto_region 5 with (first
      | (at_lookup; refine wpList_mv_look code1 (by kernel_rfl) _ rfl _ _ rfl c.pm (M.length + 2) (placeF L M) rfl HF.out.pl (idx + 2) (show idx + 2 ≤ _ by omega) rfl ?_; rw [Hpm.out]; intro cc hc))
    have HFa := Lib.hid (HF.out.below hal)
    have Hfa := Lib.hid (Fr.of_below (S := [c.ov, c.pm]) (v := v) hal)
    have hob : ∀ g, v.ownBlock = some g → g < w.heap.size := fun g hg => (HF.out.own.lt g hg).2
    have hovl := heap_lt HF.out.ov
    have hpml := HF.out.pl.lt
    clear hal p0 b0 w0 n0 x0 x1 x2
    generalize w.alloc (.cells #[.int .i64 l, .int .i64 qh, .int .i64 qk] 32) = wa at *
    obtain ⟨w0, -⟩ := cells1 HFa.out.wv
    obtain ⟨n0, n1, n2⟩ := cellsT hnew
    go_upto_region 6 with (go_at_call 52; refine (ihh' _ HFa.out).mono ?_; rintro e w1 ⟨v1, rfl, hF1, hf1⟩; have HF1 := Lib.hid hF1; clear hF1)
    have hn1 : w1.heap[w.heap.size]? = some (.cells #[.int .i64 l, .int .i64 qh, .int .i64 qk] 32) := (hf1.block _ (heap_lt hnew) (by simp; omega) (fun e => by have := hob _ e; omega)).trans hnew
    have hob1 : v1.ownBlock ≠ some w.heap.size := fun e => by
      rcases hf1.own with h | h
      · rw [h] at e; have := hob _ e; omega
      · have := h _ e; have := heap_lt hnew; omega
    have Hf1 := Lib.hid (Hfa.out.trans hf1)
    clear hf1 w0 n0 n1 n2 hnew
    obtain ⟨w0, -⟩ := cells1 HF1.out.wv
    obtain ⟨n0, n1, n2⟩ := cellsT hn1
    go_upto_region 7 with (go_at_call 52; refine (ihk' _ _ HF1.out).mono ?_; rintro e w2 ⟨v2, rfl, hF2, hf2⟩; have HF2 := Lib.hid hF2; clear hF2)
    have hn2 : w2.heap[w.heap.size]? = some (.cells #[.int .i64 l, .int .i64 qh, .int .i64 qk] 32) := (hf2.block _ (heap_lt hn1) (by simp; omega) hob1).trans hn1
    have Hf2 := Lib.hid (Hf1.out.trans hf2)
    clear hf2 w0 n0 n1 n2 hn1
    obtain ⟨n0, n1, n2⟩ := cellsT hn2
    obtain ⟨o0, oz⟩ := cells1 HF2.out.ov
    obtain ⟨p2, q2, rfl⟩ := own_slice HF2.out.own
    have hlM := nodup_len _ _ HF2.out.wfM.nodup HF2.out.sub
    have hZ2 := HF2.out.Z_le
    have hal2 : Below w2.heap.size w2 (w2.alloc (.cells #[.int .i64 l, .int .i64 rh, .int .i64 rk] 32)) := (Below.refl _ _).alloc (Nat.le_refl _) _
    have Hal2 := Lib.hid hal2
    have hsz2 := hal2.size
    have HFx := Lib.hid (HF2.out.below hal2)
    have hxn := Lib.hid (heap_alloc_new w2 (.cells #[.int .i64 l, .int .i64 rh, .int .i64 rk] 32))
    clear hal2
    go_upto_region 8 with (at_builtin; go_loud (refine wpList_append_tri2 rfl (.tmp 36) (.tmp 42) 22 rfl (by kernel_rfl) Z _ w2.heap.size (l, rh, rk) hxn.out HFx.out.Z_le (.slice p2 M2.length q2) M2.length _ rfl HFx.out.own (by omega) rfl ?_; intro v3 w3 ho3 hf3; obtain ⟨p3, q3, rfl⟩ := own_slice ho3; have hov3 := (hf3.block c.ov (heap_lt HFx.out.ov) (by simp) (own_ne HFx.out.own HFx.out.ov (by decide))).trans HFx.out.ov; obtain ⟨g30, fz3⟩ := cells1 hov3))
    have hU := Upd.cast (o' := .cells #[.slice p3 (M2.length + 1) q3] 22) (Upd.set (i := 0) (v := .slice p3 (M2.length + 1) q3) (Upd.refl hov3)) (by simp)
    obtain ⟨es, ck, hmap⟩ := HFx.out.pl.obj
    have hpv3 := (hf3.block c.pv (heap_lt HFx.out.pv) (by simp) (own_ne HFx.out.own HFx.out.pv (by decide))).trans HFx.out.pv
    have hpm3 := hf3.block c.pm HFx.out.pl.lt (by simp) (own_ne_map HFx.out.own hmap)
    have hpv4 := (hU.other c.pv (ne_of hpv3 hov3 (by simp))).trans hpv3
    have hnm : c.pm ≠ c.ov := ne_of (hpm3.trans hmap) hov3 (by simp)
    have hpl4 := HFx.out.pl.at ((hU.other c.pm hnm).trans hpm3)
    have hmap4 := ((hU.other c.pm hnm).trans hpm3).trans hmap
    have ho4 : (w3.setCell ⟨c.ov, 0, none⟩ (.slice p3 (M2.length + 1) q3)).ownsRow Z 32 3 (.slice p3 (M2.length + 1) q3) (M2.length + 1) (triCells (nodes M2) ++ triC (l, rh, rk)) :=
      ownsRow_at ho3 fun g hg => hU.other g fun e => own_ne ho3 hov3 (by decide) (by rw [hg, e])
    have hov4 := hU.blk
    have hf4 : Fr [c.ov, c.pm] (.slice p2 M2.length q2) (.slice p3 (M2.length + 1) q3) w2 (w3.setCell ⟨c.ov, 0, none⟩ (.slice p3 (M2.length + 1) q3)) := ((Fr.of_below Hal2.out).trans (hf3.mono (by simp))).trans (Fr.of_upd hU (by simp))
    have Hf4 := Lib.hid hf4
    have Ho4 := Lib.hid ho4
    have Hpl4 := Lib.hid hpl4
    have Hmap4 := Lib.hid hmap4
    clear hU hf3 ho3 hpv3 hpm3 g30 fz3 hov3 hf4 ho4 hpl4 hmap4 n0 n1 n2 o0 oz hmap
    generalize w3.setCell ⟨c.ov, 0, none⟩ (.slice p3 (M2.length + 1) q3) = w4 at *
    obtain ⟨p0, -⟩ := cells1 hpv4
    obtain ⟨o0, -⟩ := cells1 hov4
    have Hov4 := Lib.hid hov4
    clear hpv4 hov4
    go_wp2_with (first
      | (at_mapUpdate; go_loud (refine wpList_mv_put code1 (by kernel_rfl) _ rfl _ _ _ (.inl rfl) c.pm (M2.length + 2) (placeF L M2) rfl Hpl4.out (by omega) (idx + 2) (show idx + 2 ≤ _ by omega) rfl ((M2.length + 2 : Nat) : Int) rfl (wf_nat (by omega)) ?_; intro w5 hm5 ht5; have Hm5 := Lib.hid hm5; clear hm5; have hov5 := (ht5.grown.block c.ov (heap_lt Hov4.out) (by simp; exact fun e => hnm e.symm)).trans Hov4.out; obtain ⟨d0, -⟩ := cells1 hov5; have Ht5 := Lib.hid ht5; clear ht5)))
    go_ret
    have ht5 := Ht5.out
    have hf5 : Fr [c.ov, c.pm] (.slice p2 M2.length q2) (.slice p3 (M2.length + 1) q3) w2 w5 := Hf4.out.trans (Fr.of_turned ht5 (by simp))
    have hlen : (M2 ++ [T.n l h k]).length = M2.length + 1 := by simp
    refine ⟨.slice p3 (M2.length + 1) q3, by congr 2, HF2.out.step hf5 hov5 ?_ ?_ HM3.out ?_, Hf2.out.trans hf5⟩
    · rw [hlen, Hn3.out, triCells_snoc]
      exact ownsRow_at Ho4.out fun g hg => ht5.grown.block g (Ho4.out.lt g hg).2 (by simp; exact fun e => own_ne_map Ho4.out Hmap4.out (by rw [hg, e]))
    · rw [hlen]
      exact Hm5.out.congr fun z _ => by rw [Hpf.out]
    · intro x hx
      rcases List.mem_append.1 hx with h1 | h1
      · exact HF2.out.sub x h1
      · rw [List.mem_singleton.1 h1]; exact iL
end Go.Proofs.Ytkppcibffbnhoaa
