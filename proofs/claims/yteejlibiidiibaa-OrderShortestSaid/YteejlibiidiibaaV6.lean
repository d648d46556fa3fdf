/-
  Walks: distances.
-/
import Derived.Test.YteejlibiidiibaaV5
namespace Go.Proofs.Yteejlibiidiibaa
open Go.RowKit
set_option maxRecDepth 100000
theorem UT.fresh {w : World} {ub G B : Nat} (h : w.heap[ub]? = some (.cells (madeCells #[.slice none 0 0] G) 22)) (hl : ub < B) (hs : B ≤ w.heap.size) : UT w ub G B fun _ => [] := by
  refine ⟨hl, hs, _, fun _ => .slice none 0 0, h, fun m hm => ⟨?_, World.ownsRow_nil _ _ _ _⟩, fun m m' g _ _ _ h => by cases h⟩
  simp [madeCells, hm, Nat.mod_one]
theorem UT.row {w : World} {ub G B db : Nat} {f : Nat → List Int} (h : UT w ub G B f) (hd : db < B) (hne : db ≠ ub) {m : Nat} (hm : m < G) :
    ∃ q cq, (f m).length ≤ cq ∧ ∀ w', FX db db w.heap.size w w' → w'.cell? ⟨ub, m, none⟩ = some (.slice q (f m).length cq) ∧ RC w' 1 q (f m).length (ic (f m)) := by
  obtain ⟨tc, vs, h1, h2, _⟩ := h.ex
  obtain ⟨h3, h4⟩ := h2 m hm
  obtain ⟨q, cq, hv⟩ := own_slice h4
  rw [hv] at h4 h3
  refine ⟨q, cq, own_cap h4, fun w' hf => ⟨?_, ?_⟩⟩
  · have := (hf.block ub (heap_lt h1) (Ne.symm hne) (Ne.symm hne)).trans h1
    simp [World.cell?, this, h3]
  · exact RC.of_own (ownsRow_at h4 fun g hg => by
      have := h4.lt g hg
      exact hf.block g this.2 (by omega) (by omega))
/-- How distances ends. -/
def DS (E : Gr) (tg n : Nat) (w : World) (e : Ending) (w' : World) : Prop := ∃ b, e = .returned (.slice (some ⟨b, 0, none⟩) n n) ∧ w.heap.size ≤ b ∧ IT w' b n (sd E tg) ∧ Below w.heap.size w w'
/-- What the first loops keep. -/
structure DI (E : Gr) (n ub : Nat) (f : Nat → List Int) (k i : Nat) (l : List Int) (w2 w : World) : Prop where
  d : IT w (ub + 1) n fun m => if m < k then -1 else 0
  u : UT w ub n (ub + 2) f
  b : BK E f i l
  f : FX ub (ub + 1) (ub + 2) w2 w
set_option maxHeartbeats 32000000 in
theorem dist_any (w : World) (p : Option Addr) (n c : Nat) (E : Gr) (tg : Nat) (h : GS w p n E) (hs : SmallG E) (hn : n ≤ 1000) (hrow : ∀ l ∈ E, l.length ≤ 1000) (ht : tg < n) :
    Calls Try.prog 28 #[.slice p n c, .int .i64 tg] w (DS E tg n w) := by
  have Hn := Lib.hid h.len
  have H := Lib.hid h; have HS := Lib.hid hs; have Hrow := Lib.hid hrow
  clear h hs hrow
  have hmk1 := run_make_rows n (by omega)
  have hmk2 := run_make_int n (by omega)
  have hb1 := (Below.refl w.heap.size w).alloc (Nat.le_refl _) (.cells (madeCells #[.slice none 0 0] n) 22)
  have hn1 := heap_alloc_new w (.cells (madeCells #[.slice none 0 0] n) 22)
  have hs1 : (w.alloc (.cells (madeCells #[.slice none 0 0] n) 22)).heap.size = w.heap.size + 1 := by simp
  go_enter Try.func28, Try.ntmps28
  go_upto_region 2 with fail
  generalize w.alloc (.cells (madeCells #[.slice none 0 0] n) 22) = w1 at *
  have hb2 := (Below.refl w1.heap.size w1).alloc (Nat.le_refl _) (.cells (madeCells #[.int .i64 0] n) 3)
  have I2 := Lib.hid (IT.made w1 n)
  have hs2 : (w1.alloc (.cells (madeCells #[.int .i64 0] n) 3)).heap.size = w1.heap.size + 1 := by simp
  rw [hs1] at hs2 hb2 I2
  go_upto_region 3 with fail
  generalize w1.alloc (.cells (madeCells #[.int .i64 0] n) 3) = w2 at *
  have U2 := Lib.hid (UT.fresh (B := w.heap.size + 2) ((hb2.block _ (by omega)).trans hn1) (by omega) (by omega))
  have Hb2 := Lib.hid (show Below w.heap.size w w2 from hb1.trans (hb2.mono (by omega)))
  have Hs2 := Lib.hid hs2
  clear hb1 hn1 hs1 hb2 hs2 hmk1 hmk2
  go_wp2
  go_loopw [22] (fun a wr => ∃ (i : Nat) (f : Nat → List Int), a = .int .i64 i ∧ i ≤ n ∧ DI E n w.heap.size f i i [] w2 wr) (fun a _ => n - (intOf a).toNat)
  case atStart => exact ⟨0, fun _ => [], rfl, by omega, I2.out.congr fun m _ => by simp, U2.out, BK.start E, FX.refl _ _ _ _⟩
  case round =>
    obtain ⟨i, f, rfl, hi, hD⟩ := hrel
    have HD := Lib.hid hD
    clear hD
    by_cases hlt : i < n
    · have hiE : i < E.length := by rw [← Hn.out]; exact hlt
      obtain ⟨a, o, q, cq, rfl, ha, hq, hcell, hrc⟩ := H.out.row (k := i) hiE
      have hLl : E[i].length ≤ 1000 := Hrow.out _ (List.getElem_mem hiE)
      have HbI := Lib.hid (Hb2.out.trans (HD.out.f.below (L := w.heap.size) (Nat.le_refl _) (by omega) (by omega)))
      have c0 := hcell wr HbI.out
      have Hrc := Lib.hid hrc
      have Hge := Lib.hid (getD_at hiE)
      generalize E[i] = L at *
      have y1 := HD.out.d.free i
      have y2 := HD.out.d.cell hlt
      have Hset := Lib.hid (HD.out.d.set hlt (-1))
      clear hrc hcell hiE
      obtain ⟨wo, hwo⟩ : ∃ wo : World, wo = wr := ⟨_, rfl⟩
      subst hwo
      go_upto_region 7 with fail
      have HD2 := Lib.hid (show DI E n w.heap.size f (i + 1) i [] w2 (wo.setCell ⟨w.heap.size + 1, i, none⟩ (.int .i64 (-1))) from
        ⟨Hset.out.1.congr fun m _ => by
          by_cases e : m = i
          · subst e; simp
          · by_cases e2 : m < i
            · simp [e, e2, show m < i + 1 by omega]
            · simp [e, e2, show ¬ m < i + 1 by omega], HD.out.u.other (by omega) (by omega) Hset.out.2, HD.out.b, HD.out.f.trans (FX.of_tch Hset.out.2 (.inr (.inl rfl)))⟩)
      generalize wo.setCell ⟨w.heap.size + 1, i, none⟩ (.int .i64 (-1)) = w4 at *
      clear y1 y2 Hset
      go_wp2
      go_loopw [32] (fun b wr => ∃ (m : Nat) (f : Nat → List Int), b = .int .i64 m ∧ m ≤ L.length ∧ DI E n w.heap.size f (i + 1) i (L.take m) w2 wr) (fun b _ => L.length - (intOf b).toNat)
      case atStart => exact ⟨0, f, rfl, by omega, by simpa using HD2.out⟩
      case round =>
        obtain ⟨m, f2, rfl, hm, hD3⟩ := hrel
        have HD3 := Lib.hid hD3
        clear hD3
        by_cases hlm : m < L.length
        · have HbJ := Lib.hid (Hb2.out.trans (HD3.out.f.below (L := w.heap.size) (Nat.le_refl _) (by omega) (by omega)))
          obtain ⟨a2, o2, rfl, ha2, z0⟩ := (Hrc.out wr HbJ.out).at hlm
          have Htk := Lib.hid (List.take_succ_eq_append_getElem hlm)
          generalize L[m] = x at *
          have Hnode := Lib.hid (node_any (some ⟨a, o, none⟩) n c x)
          by_cases hno : nodeB n x = true
          · obtain ⟨hx0, hxn⟩ := nodeB_iff.1 hno
            obtain ⟨j, rfl⟩ : ∃ j : Nat, x = (j : Int) := ⟨x.toNat, by omega⟩
            have hjn : j < n := by omega
            rw [hno] at Hnode
            obtain ⟨v5, zu, hv5⟩ := HD3.out.u.cell hjn
            obtain ⟨p5, c5, hve⟩ := own_slice hv5
            subst hve
            have yu := Lib.hid zu
            have hul : (f2 j).length ≤ i * 1000 + (L.take m).length := HD3.out.b.len j (by rw [← Hn.out]; exact hjn)
            have hi1 : i * 1000 ≤ 1000 * 1000 := Nat.mul_le_mul_right _ (by omega)
            have hbd : (f2 j).length + 1 ≤ 67108864 := by rw [List.length_take] at hul; omega
            have b6 : Below wr.heap.size wr (wr.alloc (.cells #[.int .i64 i] 3)) := (Below.refl _ _).alloc (Nat.le_refl _) _
            have n6 := heap_alloc_new wr (.cells #[.int .i64 i] 3)
            have Hbz := Lib.hid (show w.heap.size + 2 ≤ (wr.alloc (.cells #[.int .i64 i] 3)).heap.size from Nat.le_trans HD3.out.u.sz b6.size)
            have Ho6 := Lib.hid (ownsRow_below hv5 b6 (Nat.le_refl _))
            have Hrc6 := Lib.hid (show RC (wr.alloc (.cells #[.int .i64 i] 3)) 1 (some ⟨wr.heap.size, 0, none⟩) 1 (ic [(i : Int)]) from RC.row rfl n6 (fun j u hu => by simpa [ic] using hu))
            clear b6 n6 hno hx0 hxn hul hi1 hv5
            go_wp2_with (first
              | (go_at_call 23; refine (Hnode.out _).mono ?_; rintro e w6 ⟨rfl, rfl⟩)
              | (at_builtin; go_loud (refine wpList_append_ownrc rfl (.tmp 44) (.tmp 46) 22 rfl 3 (by kernel_rfl) int_info rfl (by decide) (by decide) (w.heap.size + 2) _ (some ⟨wr.heap.size, 0, none⟩) (f2 j).length 1 1 _ (ic [(i : Int)]) Hbz.out (.slice p5 (f2 j).length c5) rfl rfl Ho6.out Hrc6.out (ic_one _) hbd ?_); intro v7 w7 ho7 hf3; have HU7 := Lib.hid (HD3.out.u.push hjn yu.out rfl hf3 ho7); obtain ⟨p7, c7, hv7⟩ := own_slice ho7; subst hv7; obtain ⟨-, z70, -⟩ : True ∧ w7.cell? ⟨w.heap.size, j, none⟩ = some (.slice p5 (f2 j).length c5) ∧ True := ⟨trivial, (cell_at HU7.out.1).trans yu.out, trivial⟩; have z71 : w7.frozen? ⟨w.heap.size, j, none⟩ = false := (by have h1 := HD3.out.u.free j; simp only [World.frozen?] at h1 ⊢; rw [HU7.out.1]; exact h1); clear ho7))
            have hDI : DI E n w.heap.size (fun m => if m = j then f2 m ++ [(i : Int)] else f2 m) (i + 1) i (L.take m ++ [(j : Int)]) w2 (w7.setCell ⟨w.heap.size, j, none⟩ (.slice p7 ((f2 j).length + 1) c7)) := by
              obtain ⟨g1, g2, g3, g4, g5⟩ := HU7.out
              refine ⟨?_, g2, HD3.out.b.push, ?_⟩
              · obtain ⟨o, hu⟩ := g5
                exact (HD3.out.d.at (g3 _ (by omega))).at (hu.other _ (by omega))
              · exact (HD3.out.f.trans (FX.of_below g4)).trans (FX.of_tch g5 (.inl rfl))
            exact ⟨⟨m + 1, _, by go_num, by omega, by rw [Htk.out]; exact hDI⟩, by simp [intOf]; omega⟩
          · have hno' : nodeB n x = false := by simpa using hno
            rw [hno'] at Hnode
            have Hno2 := Lib.hid (show nodeB E.length x = false by rw [← Hn.out]; exact hno')
            clear hno hno'
            go_wp2_with (go_at_call 23; refine (Hnode.out _).mono ?_; rintro e w6 ⟨rfl, rfl⟩)
            exact ⟨⟨m + 1, f2, by go_num, by omega, by rw [Htk.out]; exact ⟨HD3.out.d, HD3.out.u, HD3.out.b.skip Hno2.out, HD3.out.f⟩⟩, by simp [intOf]; omega⟩
        · have hmL : m = L.length := by omega
          have dmm : decide (m < L.length) = false := by simp; omega
          have HmL := Lib.hid hmL
          clear hmL
          go_wp2
          refine ⟨⟨i + 1, f2, by go_num, by omega, HD3.out.d, HD3.out.u, ?_, HD3.out.f⟩, by simp [intOf]; omega⟩
          have h1 := HD3.out.b
          rw [HmL.out, List.take_length, ← Hge.out] at h1
          exact h1.row (by rw [Hge.out]; exact hLl)
    · have hin : i = n := by omega
      have hB : BK E f n [] := hin ▸ HD.out.b
      have HB := Lib.hid hB
      have HU := Lib.hid HD.out.u
      have hD1 : IT wr (w.heap.size + 1) n (fun m => if m < n then (-1 : Int) else 0) := by have := HD.out.d; rwa [hin] at this
      have HI := Lib.hid hD1
      have Hbr := Lib.hid (Hb2.out.trans (HD.out.f.below (L := w.heap.size) (Nat.le_refl _) (by omega) (by omega)))
      have hsz := HD.out.u.sz
      have dnn : decide (i < n) = false := by simp; omega
      have y1 := HI.out.free tg
      have y2 := HI.out.cell ht
      have Hset := Lib.hid (HI.out.set ht 0)
      clear hB hD1 hin
      obtain ⟨wo, hwo⟩ : ∃ wo : World, wo = wr := ⟨_, rfl⟩
      subst hwo
      go_upto_region 15 with fail
      have hI4 : IT (wo.setCell ⟨w.heap.size + 1, tg, none⟩ (.int .i64 0)) (w.heap.size + 1) n (fun m => if m = tg then 0 else -1) := Hset.out.1.congr fun m hm => by simp [hm]
      have HU4 := Lib.hid (HU.out.other (by omega) (by omega) Hset.out.2)
      have Hb4 := Lib.hid (Hbr.out.trans (Hset.out.2.below (by omega)))
      have hs4 : (wo.setCell ⟨w.heap.size + 1, tg, none⟩ (.int .i64 0)).heap.size = wo.heap.size := Hset.out.2.size
      have HI4 := Lib.hid hI4
      generalize wo.setCell ⟨w.heap.size + 1, tg, none⟩ (.int .i64 0) = w4 at *
      clear y1 y2 hI4
      go_upto_region 16 with fail
      have Hs4 := Lib.hid (show w.heap.size + 2 ≤ w4.heap.size by omega)
      have b5 : Below w4.heap.size w4 (w4.alloc (.cells #[.int .i64 tg] 3)) := (Below.refl _ _).alloc (Nat.le_refl _) _
      have Hq5 := Lib.hid (show OQ (w4.alloc (.cells #[.int .i64 tg] 3)) w4.heap.size (.slice (some ⟨wo.heap.size, 0, none⟩) 1 1) [(tg : Int)] from OQ.made (by rw [← hs4]; exact heap_alloc_new w4 _) (by omega))
      have Hb5 := Lib.hid b5
      have HI5 := Lib.hid (HI4.out.below b5)
      generalize w4.alloc (.cells #[.int .i64 tg] 3) = w5 at *
      have Hst := Lib.hid (BI.start (E := E) (tg := tg) (by rw [← Hn.out]; exact ht))
      clear b5 hs4 hsz
      go_loopg [11] (n + 1) (fun q v wr => ∃ (d : Nat → Int) (W : List Int), OQ wr w4.heap.size v W ∧ IT wr (w.heap.size + 1) n d ∧ BI E tg d W ∧ FX (w.heap.size + 1) (w.heap.size + 1) w4.heap.size w4 wr ∧ (n - cnt n (lbl d)) + W.length ≤ q)
      case atStart => exact ⟨_, _, Hq5.out, HI5.out, Hst.out, FX.of_below Hb5.out, by simp <;> omega⟩
      case round =>
        obtain ⟨d, W, hQ, hI, hB, hF, hq⟩ := hrel
        have HQ := Lib.hid hQ; have HI := Lib.hid hI; have HB2 := Lib.hid hB; have HF := Lib.hid hF; have Hq := Lib.hid hq
        have hWl : W.length ≤ n := by have := hB.lenW; have := Hn.out; omega
        clear hQ hI hB hF hq
        cases W with
        | nil =>
          obtain ⟨g, og, cg, arr, hv, -⟩ := HQ.out.ex
          simp only [List.length_nil] at hv
          subst hv
          have Hfin := Lib.hid (show ∀ m, m < n → sd E tg m = d m from fun m hm => (HB2.out.fin (by rw [← Hn.out]; exact hm)).symm)
          go_wp2
          go_ret
          exact ⟨_, rfl, by omega, HI.out.congr Hfin.out, Hb4.out.trans (HF.out.below (by omega) (by omega) (by have := Hs4.out; omega))⟩
        | cons x rest =>
          obtain ⟨u, rfl, hul, hud⟩ := HB2.out.wm x (by simp)
          have hun : u < n := by rw [Hn.out]; exact hul
          have hdu : d u < (n : Int) := by
            rcases HB2.out.lab u hul with h | ⟨m, h, h1, h2⟩
            · omega
            · have := h1.short h2; have := Hn.out; omega
          obtain ⟨qr, cr, hqr, hrow⟩ := HU4.out.row (db := w.heap.size + 1) (by omega) (by omega) hun
          have Hrw := Lib.hid hrow
          have hfl : (f u).length ≤ n * 1000 := by have := HB.out.len u hul; simpa using this
          have hmem := Lib.hid (HB.out.mem u)
          have HB3 := Lib.hid hmem.out
          obtain ⟨g, og, cg, arr, hv, hcg, -⟩ := HQ.out.ex
          subst hv
          have hcu := (hrow wr HF.out).1
          obtain ⟨a8, o8, he8, -, z8⟩ := (HQ.out.rc.2.2).at (L := (u : Int) :: rest) (m := 0) (by simp)
          injection he8 with he8; injection he8 with e1 e2; subst e1 e2
          simp only [List.getElem_cons_zero, Nat.add_zero] at z8
          obtain ⟨wo5, hwo5⟩ : ∃ wo5 : World, wo5 = wr := ⟨_, rfl⟩
          subst hwo5
          clear hrow hmem hul
          have hlen : 0 < ((u : Int) :: rest).length := by simp
          have d7 : decide (0 < ((u : Int) :: rest).length) = true := by simp
          generalize hWW : (u : Int) :: rest = WW at *
          have HWW := Lib.hid hWW
          have hwl : WW.length ≤ n := hWl
          clear hWW hWl
          have hud' := hud
          generalize hdd : d u = du at *
          have Hdd := Lib.hid hdd
          clear hdd
          go_wp2
          go_loopw [68, 11] (fun a v wr => ∃ (m : Nat) (d' : Nat → Int) (rest' : List Int), a = .int .i64 m ∧ m ≤ (f u).length ∧ OQ wr w4.heap.size v ((u : Int) :: rest') ∧ IT wr (w.heap.size + 1) n d' ∧ BI E tg d' ((u : Int) :: rest') ∧ FX (w.heap.size + 1) (w.heap.size + 1) w4.heap.size w4 wr ∧
            (n - cnt n (lbl d')) + (rest'.length + 1) ≤ (n - cnt n (lbl d)) + WW.length ∧ d' u = du ∧ ∀ b : Nat, (b : Int) ∈ (f u).take m → 0 ≤ d' b) (fun a _ _ => (f u).length - (intOf a).toNat)
          case atStart => exact ⟨0, d, rest, rfl, by omega, by rw [HWW.out]; exact HQ.out, HI.out, by rw [HWW.out]; exact HB2.out, HF.out, by rw [← HWW.out]; simp, Hdd.out, fun b hb => by simp at hb⟩
          case round =>
            obtain ⟨m, d', rest', rfl, hm, hQ, hI, hB, hF, hq, hdu', hall⟩ := hrel
            have HQ' := Lib.hid hQ; have HI' := Lib.hid hI; have HB' := Lib.hid hB; have HF' := Lib.hid hF; have Hq' := Lib.hid hq; have Hdu' := Lib.hid hdu'; have Hall := Lib.hid hall
            have hwl' : rest'.length + 1 ≤ n := by have h1 := hB.lenW; have h2 := Hn.out; rw [List.length_cons] at h1; omega
            obtain ⟨g', og', cg', arr', hv', hcg', -⟩ := hQ.ex
            subst hv'
            clear hQ hI hB hF hq hdu' hall
            by_cases hlm : m < (f u).length
            · obtain ⟨a9, o9, he9, -, z9⟩ := (Hrw.out wr HF'.out).2.at hlm
              subst he9
              obtain ⟨i9, hi9, hmm⟩ := (HB3.out (f u)[m] (by rw [← Hn.out]; exact hun)).1 (List.getElem_mem hlm)
              have hmm : i9 < n ∧ (u : Int) ∈ E.getD i9 [] := by
                rcases hmm with h | ⟨_, h⟩
                · exact h
                · cases h
              have Htk := Lib.hid (show (f u).take (m + 1) = (f u).take m ++ [(i9 : Int)] by rw [List.take_succ_eq_append_getElem hlm, hi9])
              rw [hi9] at z9
              have hi9n := hmm.1
              have Hmm := Lib.hid hmm.2
              have x1 := HI'.out.cell hi9n
              have x2 := HI'.out.free i9
              have x3 := HI'.out.cell hun
              rw [Hdu'.out] at x3
              obtain ⟨a8, o8, he8, -, z8⟩ := (HQ'.out.rc.2.2).at (L := (u : Int) :: rest') (m := 0) (by simp)
              injection he8 with he8; injection he8 with e1 e2; subst e1 e2
              simp only [List.getElem_cons_zero, Nat.add_zero] at z8
              have hlen' : 0 < ((u : Int) :: rest').length := by simp
              have Hwl' := Lib.hid (show ((u : Int) :: rest').length = rest'.length + 1 by simp)
              have HL := Lib.hid (show d' i9 < 0 → BI E tg (fun m => if m = i9 then du + 1 else d' m) (((u : Int) :: rest') ++ [(i9 : Int)]) from fun h => by have := HB'.out.label (by rw [← Hn.out]; exact hi9n) Hmm.out h; rw [Hdu'.out] at this; exact this)
              generalize hW' : (u : Int) :: rest' = W' at *
              have HW' := Lib.hid hW'
              clear hW' hi9 hmm
              by_cases h0 : d' i9 < 0
              · have d9 : decide (d' i9 < 0) = true := by simp [h0]
                have HL2 := Lib.hid (HL.out h0)
                have Hset := Lib.hid (HI'.out.set hi9n (du + 1))
                have Hls := Lib.hid (lbl_set (x := du + 1) hi9n h0 (by omega))
                have H0 := Lib.hid h0
                clear h0
                go_upto_region 23 with fail
                have HQ6 := Lib.hid (HQ'.out.at (w' := wr.setCell ⟨w.heap.size + 1, i9, none⟩ (.int .i64 (du + 1))) fun g hg _ => by obtain ⟨o, hu⟩ := Hset.out.2; exact hu.other g (by have := Hs4.out; omega))
                have HF6 := Lib.hid (HF'.out.trans (FX.of_tch (mb := w.heap.size + 1) (ub := w.heap.size + 1) (B := w4.heap.size) Hset.out.2 (.inl rfl)))
                have HI6 := Lib.hid Hset.out.1
                generalize wr.setCell ⟨w.heap.size + 1, i9, none⟩ (.int .i64 (du + 1)) = w6 at *
                clear Hset x1 x2 x3 z8 z9
                have b6 : Below w6.heap.size w6 (w6.alloc (.cells #[.int .i64 i9] 3)) := (Below.refl _ _).alloc (Nat.le_refl _) _
                have n6 := heap_alloc_new w6 (.cells #[.int .i64 i9] 3)
                have hs6 : w4.heap.size ≤ w6.heap.size := HF6.out.size
                have Hbz := Lib.hid (show w4.heap.size ≤ (w6.alloc (.cells #[.int .i64 i9] 3)).heap.size from Nat.le_trans hs6 b6.size)
                have Ho7 := Lib.hid (HQ6.out.at (w' := w6.alloc (.cells #[.int .i64 i9] 3)) fun g _ hg => by obtain ⟨_, tc, h4⟩ := HQ6.out.ty hg; exact b6.block g (heap_lt h4))
                have HI7 := Lib.hid (HI6.out.below b6)
                have HF7 := Lib.hid (HF6.out.trans (FX.of_below (b6.mono hs6)))
                have Hrc6 := Lib.hid (show RC (w6.alloc (.cells #[.int .i64 i9] 3)) 1 (some ⟨w6.heap.size, 0, none⟩) 1 (ic [(i9 : Int)]) from RC.row rfl n6 (fun j u hu => by simpa [ic] using hu))
                have hbd : W'.length + 1 ≤ 67108864 := by have := Hwl'.out; omega
                clear b6 n6 hs6
                go_wp2_with (at_builtin; go_loud (refine wpList_append_oq rfl (.tmp 87) (.tmp 89) rfl w4.heap.size _ (some ⟨w6.heap.size, 0, none⟩) 1 W' (i9 : Int) _ rfl rfl Ho7.out Hrc6.out Hbz.out hbd ?_); intro v8 w8 hq8 hf8; have HQ8 := Lib.hid hq8; have Hf8 := Lib.hid hf8; clear hq8 hf8)
                have hI8 : IT w8 (w.heap.size + 1) n (fun m => if m = i9 then du + 1 else d' m) := HI7.out.at (Hf8.out.block _ HI7.out.lt (by simp) fun e => by have := (Ho7.out.ty e).1; have := Hs4.out; omega)
                have hF8 := HF7.out.trans (FX.of_below (mb := w.heap.size + 1) (ub := w.heap.size + 1) (Hf8.out.below Hbz.out (by simp) fun g hg => (Ho7.out.ty hg).1))
                refine ⟨⟨m + 1, _, rest' ++ [(i9 : Int)], by go_num, by omega, by rw [← List.cons_append, HW'.out]; exact HQ8.out, hI8, by rw [← List.cons_append, HW'.out]; exact HL2.out, hF8, ?_, ?_, fun b hb => ?_⟩, by simp [intOf]; omega⟩
                · have h1 := Hls.out
                  have h2 := Hq'.out
                  have h3 := cnt_le n (lbl fun m => if m = i9 then du + 1 else d' m)
                  rw [h1] at h3 ⊢
                  rw [List.length_append, List.length_singleton]
                  omega
                · have h1 := Hdu'.out
                  have h2 := H0.out
                  have : u ≠ i9 := fun e => by subst e; omega
                  rw [if_neg this]; exact h1
                · rw [Htk.out, List.mem_append, List.mem_singleton] at hb
                  show 0 ≤ if b = i9 then du + 1 else d' b
                  split
                  · omega
                  · rename_i hne
                    rcases hb with hb | hb
                    · exact Hall.out b hb
                    · exact absurd (by omega) hne
              · have d9 : decide (d' i9 < 0) = false := by simp; omega
                have h0' : 0 ≤ d' i9 := by omega
                have H0 := Lib.hid h0'
                clear h0 h0'
                go_wp2
                exact ⟨⟨m + 1, d', rest', by go_num, by omega, by rw [HW'.out]; exact HQ'.out, HI'.out, by rw [HW'.out]; exact HB'.out, HF'.out, Hq'.out, Hdu'.out, fun b hb => by
                  rw [Htk.out, List.mem_append, List.mem_singleton] at hb
                  rcases hb with hb | hb
                  · exact Hall.out b hb
                  · have : b = i9 := by omega
                    subst this; exact H0.out⟩, by simp [intOf]; omega⟩
            · have hmL : m = (f u).length := by omega
              have dmm : decide (m < (f u).length) = false := by simp; omega
              have Hpop := Lib.hid (HB'.out.pop fun b hb hub => Hall.out b (by rw [hmL, List.take_length]; exact (HB3.out _ (by rw [← Hn.out]; exact hun)).2 ⟨b, rfl, .inl ⟨by rw [Hn.out]; exact hb, hub⟩⟩))
              obtain ⟨gz, oz, hpz, hnz, hcz, hQz⟩ := HQ'.out.cut
              injection hpz with hpz; injection hpz with e1 e2; subst e1 e2
              have HQz := Lib.hid hQz
              have HQz0 := Lib.hid (fun h : cg' - 1 = 0 => HQ'.out.cut0 h)
              have hlen' : 0 < ((u : Int) :: rest').length := by simp
              clear hmL hnz hQz
              by_cases hc1 : cg' - 1 = 0
              · have HQ1 := Lib.hid (HQz0.out hc1)
                go_wp2
                go_roundg ((n - cnt n (lbl d')) + rest'.length)
                case rel => exact ⟨d', rest', HQ1.out, HI'.out, Hpop.out, HF'.out, Nat.le_refl _⟩
                case measure =>
                  have h1 := Hq'.out
                  have h2 := Hq.out
                  omega
              · go_wp2
                go_roundg ((n - cnt n (lbl d')) + rest'.length)
                case rel => exact ⟨d', rest', HQz.out, HI'.out, Hpop.out, HF'.out, Nat.le_refl _⟩
                case measure =>
                  have h1 := Hq'.out
                  have h2 := Hq.out
                  omega
end Go.Proofs.Yteejlibiidiibaa
