/-
  Walks: Reach.
-/
import Derived.Test.YteejlibiidiibaaA2
import Derived.Deep.LoopGhost
import Derived.Outline
import Derived.Laws.OwnMore
namespace Go.Proofs.Yteejlibiidiibaa
open Go.RowKit
set_option maxRecDepth 100000
theorem nil_or_snoc {α : Type} (W : List α) : W = [] ∨ ∃ W0 x, W = W0 ++ [x] := by
  rcases List.eq_nil_or_concat W with h | ⟨W0, x, h⟩
  · exact .inl h
  · exact .inr ⟨W0, x, by rw [h, List.concat_eq_append]⟩
theorem own_cut {w : World} {B m cap : Nat} {e : TypeId} {p : Option Addr} {W : List Int} {x : Int} (h : w.ownsRow B e 1 (.slice p (m + 1) cap) (m + 1) (ic (W ++ [x]))) : w.ownsRow B e 1 (.slice p m cap) m (ic W) := by
  have hl := h.1
  rw [ic_len, List.length_append, List.length_singleton] at hl
  refine ⟨by rw [ic_len]; omega, ?_⟩
  rcases h.2 with ⟨_, h0⟩ | ⟨g, cap', cur, h1, h2, h3, h4, h5, h6, h7⟩
  · omega
  · injection h1 with q1 q2 q3
    subst q3
    refine .inr ⟨g, cap, cur, by rw [q1], h2, h3, by omega, h5, h6, ?_⟩
    have h8 : cur.toList.take m = (cur.toList.take (m + 1)).take m := by rw [List.take_take]; congr 1; omega
    rw [Nat.mul_one] at h7 ⊢
    rw [h8, h7]
    simp only [ic, List.map_append]
    rw [List.take_left']
    simp; omega
theorem own_cap {w : World} {B n cap size : Nat} {e : TypeId} {p : Option Addr} {xs : List Value} (h : w.ownsRow B e size (.slice p n cap) n xs) : n ≤ cap := by
  rcases h.2 with ⟨h1, h0⟩ | ⟨g, cap', cur, h1, h2, h3, h4, h5⟩
  · omega
  · injection h1 with q1 q2 q3
    omega
theorem RS.store {h : Nat} {p : Option Addr} {n c : Nat} {s : (Nat → Bool) × List Int} {v v' : Value} {w : World} {W : List Int} (H : RS h p n c s v w) (ho : w.ownsRow (h + 4) 3 1 v' W.length (ic W)) (hc : W.length ≤ Yteejlibiidiibaa.cnt n s.1) :
    RS h p n c (s.1, W) v' (w.setCell ⟨h + 3, 0, none⟩ v') ∧ Below h w (w.setCell ⟨h + 3, 0, none⟩ v') := by
  have hu : Upd (h + 3) (.cells #[v'] 22) w (w.setCell ⟨h + 3, 0, none⟩ v') := one_set H.k
  exact ⟨⟨(hu.other _ (by omega)).trans H.e, H.t.at (hu.other _ (by omega)), (hu.other _ (by omega)).trans H.sl, hu.blk, ownsRow_at ho fun g hg => hu.other _ (by have := (ho.lt g hg).1; omega), hc⟩, hu.below (by omega)⟩
theorem RS.init {w w1 w2 : World} {p : Option Addr} {n c : Nat} (hn1 : w1.heap[w.heap.size]? = some (.cells #[.slice p n c] 23)) (hA1 : Below w.heap.size w w1) (hs1 : w1.heap.size = w.heap.size + 1) (hA2 : Below w1.heap.size w1 w2) (hs2 : w2.heap.size = w1.heap.size + 1) (T2 : BT w2 (w.heap.size + 1) n fun _ => false) :
    RS w.heap.size p n c (fun _ => false, []) (.slice none 0 0) ((w2.alloc (.cells #[.slice (some ⟨w.heap.size + 1, 0, none⟩) n n] 46)).alloc (.cells #[.slice none 0 0] 22)) ∧ Below w.heap.size w ((w2.alloc (.cells #[.slice (some ⟨w.heap.size + 1, 0, none⟩) n n] 46)).alloc (.cells #[.slice none 0 0] 22)) := by
  have hz2 : w2.heap.size = w.heap.size + 2 := by omega
  have hb : Below w2.heap.size w2 ((w2.alloc (.cells #[.slice (some ⟨w.heap.size + 1, 0, none⟩) n n] 46)).alloc (.cells #[.slice none 0 0] 22)) := ((Below.refl _ _).alloc (Nat.le_refl _) _).alloc (by simp) _
  have hn3 := heap_alloc_new w2 (.cells #[.slice (some ⟨w.heap.size + 1, 0, none⟩) n n] 46)
  have hs3 : (w2.alloc (.cells #[.slice (some ⟨w.heap.size + 1, 0, none⟩) n n] 46)).heap.size = w2.heap.size + 1 := by simp
  have hb4 := (Below.refl (w2.alloc (.cells #[.slice (some ⟨w.heap.size + 1, 0, none⟩) n n] 46)).heap.size (w2.alloc (.cells #[.slice (some ⟨w.heap.size + 1, 0, none⟩) n n] 46))).alloc (Nat.le_refl _) (.cells #[.slice none 0 0] 22)
  have hn4 := heap_alloc_new (w2.alloc (.cells #[.slice (some ⟨w.heap.size + 1, 0, none⟩) n n] 46)) (.cells #[.slice none 0 0] 22)
  rw [hz2] at hn3 hs3
  rw [hs3] at hn4 hb4
  refine ⟨⟨?_, T2.below hb, ?_, ?_, World.ownsRow_nil _ _ _ _, Nat.zero_le _⟩, ?_⟩
  · exact (hb.block _ (by omega)).trans ((hA2.block _ (by omega)).trans hn1)
  · exact (hb4.block _ (by omega)).trans hn3
  · exact hn4
  · exact (hA1.trans (hA2.mono (by omega))).trans (hb.mono (by omega))
set_option maxHeartbeats 8000000 in
theorem reach_any (w : World) (p : Option Addr) (n c : Nat) (E : Gr) (F : List Int) (vf : Value) (h : GS w p n E) (hs : SmallG E) (hF : IS w vf F) (hFl : F.length ≤ 100000) :
    Calls Try.prog 17 #[.slice p n c, vf] w (LO (marked n (rb E (inS F))) w) := by
  have hn : n ≤ 100000 := by rw [h.len]; exact hs.nodes
  obtain ⟨ib, hi, hz, hz1, hz2⟩ := info_parts bool_info
  have Hn := Lib.hid h.len
  have H := Lib.hid h; have HS := Lib.hid hs; have HF := Lib.hid hF
  have Hi := Lib.hid hi; have Hz := Lib.hid hz; have Hz1 := Lib.hid hz1; have Hz2 := Lib.hid hz2
  obtain ⟨q, cq, rfl, _, _⟩ := hF
  clear h hs hi hz hz1 hz2
  have hmf : ∀ (fn : Fn) (first cap : Array Value) (w : World), (Instr.makeFunc fn first cap).run Try.prog w = .ok (.func fn first cap) w := fun _ _ _ _ => rfl
  have hA1 := (Below.refl w.heap.size w).alloc (Nat.le_refl _) (.cells #[.slice p n c] 23)
  have hn1 := heap_alloc_new w (.cells #[.slice p n c] 23)
  have hs1 : (w.alloc (.cells #[.slice p n c] 23)).heap.size = w.heap.size + 1 := by simp
  go_enter Try.func17, Try.ntmps17
  go_upto_region 1 with fail
  generalize w.alloc (.cells #[.slice p n c] 23) = w1 at *
  have z1 := one_cell hn1
  have hA2 := (Below.refl w1.heap.size w1).alloc (Nat.le_refl _) (.cells (madeCells #[.bool false] n) 4)
  have hn2 := heap_alloc_new w1 (.cells (madeCells #[.bool false] n) 4)
  have hs2 : (w1.alloc (.cells (madeCells #[.bool false] n) 4)).heap.size = w1.heap.size + 1 := by simp
  have T2 := Lib.hid (BT.made w1 n)
  have HA1 := Lib.hid hA1; have HN1 := Lib.hid hn1; have HS1 := Lib.hid hs1; have HA2 := Lib.hid hA2; have HS2 := Lib.hid hs2
  clear hA1 hn1 hs1 hA2 hn2 hs2
  go_upto_region 4 with (at_make; refine wpList_make_row w1 rfl (.tmp 13) (.tmp 13) 46 rfl 4 ib (.bool false) (by kernel_rfl) Hi.out Hz.out Hz1.out rfl .i64 .i64 n rfl rfl (by rw [Hz2.out]; omega) (by omega) ?_; generalize w1.alloc (.cells (madeCells #[.bool false] n) 4) = w2 at *)
  rw [show w2.heap.size = w.heap.size + 2 from by rw [HS2.out, HS1.out], show w1.heap.size = w.heap.size + 1 from HS1.out, show w.heap.size + 2 + 1 = w.heap.size + 3 from rfl]
  have hR3 : RS w.heap.size p n c (fun _ => false, []) (.slice none 0 0) ((w2.alloc (.cells #[.slice (some ⟨w.heap.size + 1, 0, none⟩) n n] 46)).alloc (.cells #[.slice none 0 0] 22)) ∧ Below w.heap.size w ((w2.alloc (.cells #[.slice (some ⟨w.heap.size + 1, 0, none⟩) n n] 46)).alloc (.cells #[.slice none 0 0] 22)) :=
    RS.init HN1.out HA1.out HS1.out HA2.out HS2.out (HS1.out ▸ T2.out)
  have HR3 := Lib.hid hR3.1; have HB3 := Lib.hid hR3.2; clear hR3
  generalize ((w2.alloc (.cells #[.slice (some ⟨w.heap.size + 1, 0, none⟩) n n] 46)).alloc (.cells #[.slice none 0 0] 22)) = w3 at *
  clear z1
  go_wp2_with (go_at_call 30; refine (add_any w w3 w.heap.size p n c _ _ _ F HR3.out hn HF.out HB3.out (Nat.le_refl _) hFl).mono ?_; rintro e w4 ⟨v4, rfl, hR4, hb4⟩; have HR4 := Lib.hid hR4; have HB4 := Lib.hid (HB3.out.trans hb4); clear hR4 hb4)
  have hPW := PW.init E F
  rw [← Hn.out] at hPW
  have HPW := Lib.hid hPW; clear hPW
  generalize addW n (fun _ => false, []) F = s0 at *
  go_loopg [] (2 * (n - cnt n s0.1) + s0.2.length) (fun q wr => ∃ (s : (Nat → Bool) × List Int) (v : Value), RS w.heap.size p n c s v wr ∧ PW E (inS F) s ∧ Below w.heap.size w wr ∧ 2 * (n - cnt n s.1) + s.2.length ≤ q)
  case atStart => exact ⟨s0, v4, HR4.out, HPW.out, HB4.out, Nat.le_refl _⟩
  case round =>
    obtain ⟨⟨f, W⟩, v, hR, hP, hb, hq⟩ := hrel
    have HR := Lib.hid hR; have HP := Lib.hid hP; have Hb := Lib.hid hb
    have zk := one_cell hR.k
    have ze := one_cell hR.e
    have zs := one_cell hR.sl
    have zf := one_free hR.k 0
    obtain ⟨pv, cv, rfl⟩ := own_slice hR.own
    clear hR hP hb
    rcases nil_or_snoc W with rfl | ⟨W0, x, rfl⟩
    · obtain ⟨wq, rfl⟩ : ∃ wq : World, wq = wr := ⟨_, rfl⟩
      have HT := Lib.hid HR.out.t
      have Hbq := Lib.hid Hb.out.size
      go_wp2
      have hfk : ∀ k, k < n → f k = rb E (inS F) k := fun k hk => HP.out.done (by rw [← Hn.out]; exact hk)
      have Hfk := Lib.hid (marked_congr hfk)
      clear hfk
      go_loopw [41, 9] (fun i o w5 => ∃ k : Nat, i = .int .i64 k ∧ k ≤ n ∧ w5.ownsRow wq.heap.size 3 1 o (marked k f).length (ic (marked k f)) ∧ Below wq.heap.size wq w5) (fun i _ _ => n - (intOf i).toNat)
      case atStart => exact ⟨0, rfl, by omega, World.ownsRow_nil _ _ _ _, Below.refl _ _⟩
      case round =>
        obtain ⟨k, rfl, hk, ho, hb⟩ := hrel
        have Ho := Lib.hid ho; have Hb5 := Lib.hid hb
        clear ho hb
        by_cases hlt : k < n
        · have z0 := (HT.out.below Hb5.out).cell hlt
          have hml := marked_len k f
          have hms := marked_succ k f
          cases hf : f k with
          | false =>
            rw [hf] at z0 hms
            have Hms := Lib.hid hms; clear hms hf hml
            go_wp2
            exact ⟨⟨k + 1, by go_num, by omega, by rw [Hms.out]; simpa using Ho.out, Hb5.out⟩, by simp [intOf]; omega⟩
          | true =>
            rw [hf] at z0 hms
            have Hms := Lib.hid hms; clear hms hf
            have b6 : Below wr.heap.size wr (wr.alloc (.cells #[.int .i64 k] 3)) := (Below.refl _ _).alloc (Nat.le_refl _) _
            have n6 := heap_alloc_new wr (.cells #[.int .i64 k] 3)
            have Ho6 := Lib.hid (ownsRow_below Ho.out b6 (Nat.le_refl _)); have Hb6 := Lib.hid (Hb5.out.step b6)
            have Hrc := Lib.hid (show RC (wr.alloc (.cells #[.int .i64 k] 3)) 1 (some ⟨wr.heap.size, 0, none⟩) 1 (ic [(k : Int)]) from RC.row rfl n6 (fun j u hu => by simpa [ic] using hu))
            have Hbz := Lib.hid Hb6.out.size
            have hbd : (marked k f).length + 1 ≤ 67108864 := by omega
            clear b6 n6 hml
            go_wp2_with (at_builtin; go_loud (refine wpList_append_ownrc rfl (.tmp 47) (.tmp 49) 22 rfl 3 (by kernel_rfl) int_info rfl (by decide) (by decide) wq.heap.size _ (some ⟨wr.heap.size, 0, none⟩) (marked k f).length 1 1 _ (ic [(k : Int)]) Hbz.out _ rfl rfl Ho6.out Hrc.out (ic_one _) hbd ?_); intro v3 w3 ho3 hf3; have Ho3 := Lib.hid ho3; have Hf3 := Lib.hid hf3; clear ho3 hf3)
            have Hfin := Lib.hid (Hb6.out.trans (Hf3.out.below Hb6.out.size (by simp) (fun g hg => (Ho6.out.lt g hg).1)))
            refine ⟨⟨k + 1, by go_num, by omega, by have h9 := Ho3.out; rw [Hms.out, if_pos rfl, List.length_append, show ic (marked k f ++ [(k : Int)]) = ic (marked k f) ++ ic [(k : Int)] by simp [ic]]; exact h9, Hfin.out⟩, by simp [intOf]; omega⟩
        · obtain rfl : k = n := by omega
          go_wp2
          go_ret
          rw [← Hfk.out]
          exact ⟨_, rfl, ownsRow_lower Ho.out Hbq.out, Hb.out.trans (Hb5.out.mono Hbq.out)⟩
    · have hno : nodeB n x = true := by rw [Hn.out]; exact HP.out.node x (by simp)
      obtain ⟨h0, h1⟩ := nodeB_iff.1 hno
      obtain ⟨xi, rfl⟩ : ∃ xi : Nat, x = (xi : Int) := ⟨x.toNat, by omega⟩
      have hxl : xi < n := by omega
      have hlen : (W0 ++ [(xi : Int)]).length = W0.length + 1 := by simp
      obtain ⟨g, rfl⟩ := own_ptr HR.out.own (by simp)
      have zx := (RC.of_own HR.out.own).at (L := W0 ++ [(xi : Int)]) (m := W0.length) (by simp)
      obtain ⟨g', o', hgo, _, zx⟩ := zx
      injection hgo with hgo
      injection hgo with hg1 hg2
      subst hg1 hg2
      rw [List.getElem_append_right (Nat.le_refl _)] at zx
      simp only [Nat.sub_self, List.getElem_cons_zero, Nat.zero_add] at zx
      have hc0 : (W0 ++ [(xi : Int)]).length ≤ Yteejlibiidiibaa.cnt n f := HR.out.cnt
      have hcl := cnt_le n f
      have ho := HR.out.own
      dsimp only at zk ho hq
      rw [hlen] at zk hq hc0 ho
      have hbd : W0.length ≤ 100000 := by omega
      have hcv : W0.length ≤ cv := by have := own_cap ho; omega
      have Ho := Lib.hid (own_cut ho)
      have Hset := Lib.hid (HR.out.store (W := W0) Ho.out (show W0.length ≤ Yteejlibiidiibaa.cnt n f by omega))
      have Hq := Lib.hid hq; have Hc0 := Lib.hid hc0
      obtain ⟨a, o, qr, cr, rfl, ha, hqr, hcell, hrc⟩ := H.out.row (k := xi) (by rw [← Hn.out]; exact hxl)
      clear hno h0 h1 hlen hcl ho hq hc0 zs ze
      go_upto_region 8 with fail
      generalize wr.setCell ⟨w.heap.size + 3, 0, none⟩ (.slice (some ⟨g, 0, none⟩) W0.length cv) = w5 at *
      have Hb5 := Lib.hid (Hb.out.trans Hset.out.2)
      have ze := one_cell Hset.out.1.e
      have zr := hcell w5 Hb5.out
      have hL : E[xi].length ≤ 100000 := HS.out.row xi _
      have hIS : IS w (.slice qr E[xi].length cr) E[xi] := ⟨qr, cr, rfl, hqr, hrc w (Below.refl _ _)⟩
      have HIS := Lib.hid hIS
      have Hge := Lib.hid (show E.getD xi [] = E[xi] from getD_at (by rw [← Hn.out]; exact hxl))
      have HPs := Lib.hid (HP.out.step (by rw [← Hn.out]; exact hxl))
      have hmeas := addW_len (n := n) (F := E[xi]) (s := (f, W0))
      generalize E[xi] = L at *
      rw [← Hn.out, Hge.out] at HPs
      have Hmeas := Lib.hid hmeas
      have hRc : W0.length + 1 ≤ Yteejlibiidiibaa.cnt n f := Hc0.out
      have HRc := Lib.hid hRc
      clear hcell hrc hIS hmeas hRc zf zk zx
      go_wp2_with (go_at_call 30; refine (add_any w w5 w.heap.size _ n c (f, W0) _ _ L Hset.out.1 hn HIS.out Hb5.out (Nat.le_refl _) hL).mono ?_; rintro e w6 ⟨v6, rfl, hR6, hb6⟩; have HR6 := Lib.hid hR6; have HB6 := Lib.hid (Hb5.out.trans hb6); clear hR6 hb6)
      go_roundg (2 * (n - cnt n (addW n (f, W0) L).1) + (addW n (f, W0) L).2.length)
      case rel => exact ⟨_, v6, HR6.out, HPs.out, HB6.out, Nat.le_refl _⟩
      case measure =>
        have h1 : (addW n (f, W0) L).2.length + cnt n f ≤ W0.length + cnt n (addW n (f, W0) L).1 := Hmeas.out
        have h2 := HRc.out
        have h3 := Hq.out
        have h4 : cnt n f ≤ cnt n (addW n (f, W0) L).1 := cnt_mono fun i _ h => (addW_adds (s := (f, W0))).keep i h
        have h5 := cnt_le n (addW n (f, W0) L).1
        omega
end Go.Proofs.Yteejlibiidiibaa
