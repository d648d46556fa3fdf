/-
  Walks: the law on Reach and Recursive.
-/
import Derived.Test.YteejlibiidiibaaW4
import Derived.Test.YteejlibiidiibaaE6
namespace Go.Proofs.Yteejlibiidiibaa
open Go.RowKit
set_option maxRecDepth 100000
theorem LO.is {xs : List Int} {w w' : World} {e : Ending} (h : LO xs w e w') : ∃ p c, e = .returned (.slice p xs.length c) ∧ IS w' (.slice p xs.length c) xs ∧ Below w.heap.size w w' := by
  obtain ⟨v, rfl, h1, h2⟩ := h
  obtain ⟨p, c, rfl⟩ := own_slice h1
  exact ⟨p, c, rfl, own_is h1, h2⟩
theorem wfI_small {x : Int} (h0 : 0 ≤ x) (h1 : x ≤ 1000) : wfI x := by
  have h2 : IntKind.i64.min = -9223372036854775808 := by decide
  have h3 : IntKind.i64.max = 9223372036854775807 := by decide
  unfold wfI
  simp only [Lit.wf, h2, h3, Bool.and_eq_true, decide_eq_true_iff]
  omega
/-- The law's two graphs, by their cells. -/
def G2 (w : World) (b : Nat) : Prop := ∀ k : Nat, k < 2 → ∃ (E : Gr) (p : Option Addr) (c : Nat), w.cell? ⟨b, k, none⟩ = some (.slice p E.length c) ∧ b < w.heap.size ∧ GS w p E.length E ∧ SmallG E ∧ E.length ≤ 9
theorem G2.below {w w' : World} {b : Nat} (h : G2 w b) (hb : Below w.heap.size w w') : G2 w' b := fun k hk => by
  obtain ⟨E, p, c, h1, h2, h3, h4, h5⟩ := h k hk
  exact ⟨E, p, c, (hb.cell (p := ⟨b, k, none⟩) h2).trans h1, Nat.lt_of_lt_of_le h2 hb.size, h3.below hb, h4, h5⟩
theorem G2.make {w1 w2 : World} {E1 E2 : Gr} {p1 p2 : Option Addr} {c1 c2 : Nat} (h1 : GS w1 p1 E1.length E1) (s1 : SmallG E1) (n1 : E1.length ≤ 9) (hb : Below w1.heap.size w1 w2) (h2 : GS w2 p2 E2.length E2) (s2 : SmallG E2) (n2 : E2.length ≤ 9) :
    G2 (w2.alloc (.cells #[.slice p1 E1.length c1, .slice p2 E2.length c2] 23)) w2.heap.size := by
  have b9 : Below w2.heap.size w2 (w2.alloc (.cells #[.slice p1 E1.length c1, .slice p2 E2.length c2] 23)) := (Below.refl _ _).alloc (Nat.le_refl _) _
  have hn := heap_alloc_new w2 (.cells #[.slice p1 E1.length c1, .slice p2 E2.length c2] 23)
  intro k hk
  refine match k, hk with
    | 0, _ => ⟨E1, p1, c1, by unfold World.cell?; rw [hn]; rfl, heap_lt hn, (h1.below hb).below b9, s1, n1⟩
    | 1, _ => ⟨E2, p2, c2, by unfold World.cell?; rw [hn]; rfl, heap_lt hn, h2.below b9, s2, n2⟩
set_option maxHeartbeats 16000000 in
theorem reachlaw_any (w : World) (v : Value) (L : List Int) (hL : IS w v L) (hl : L.length ≤ 9223372036854775807) (vf : Value) (F : List Int) (hF : IS w vf F) (hfw : ∀ x ∈ F, wfI x) (hfl : F.length ≤ 9223372036854775807) (p : Option Addr) (n c : Nat) (R : Gr) (h : GS w p n R) (hn : n ≤ 9223372036854775807) (hrow : ∀ l ∈ R, l.length ≤ 9223372036854775807) (hwf : ∀ l ∈ R, ∀ x ∈ l, (Lit.int .i64 x).wf = true) :
    Calls Try.prog 5 #[v, vf, .slice p n c] w (ER true w) := by
  have H := Lib.hid h; have HL := Lib.hid hL; have Hrow := Lib.hid hrow; have Hwf := Lib.hid hwf
  obtain ⟨pl, cl, rfl, -, -⟩ := hL
  obtain ⟨pf, cf, rfl, hcf, hrf⟩ := hF
  have hm6 : (min (F.length : Int) 6).toNat ≤ 6 := by omega
  have hmc : (min (F.length : Int) 6).toNat ≤ cf := by omega
  have Hlen : (F.take (min (F.length : Int) 6).toNat).length = (min (F.length : Int) 6).toNat := by rw [List.length_take]; omega
  have HF := Lib.hid (show IS w (.slice pf (min (F.length : Int) 6).toNat cf) (F.take (min (F.length : Int) 6).toNat) from ⟨pf, cf, by rw [Hlen], by omega, by rw [Hlen]; exact hrf.take (by omega)⟩)
  have Hfw := Lib.hid (show ∀ x ∈ F.take (min (F.length : Int) 6).toNat, wfI x from fun x hx => hfw x (List.mem_of_mem_take hx))
  have Hfl := Lib.hid (show (F.take (min (F.length : Int) 6).toNat).length ≤ 100000 by omega)
  generalize F.take (min (F.length : Int) 6).toNat = F6 at *
  clear h hrow hwf hfw hrf Hlen
  go_enter Try.func5, Try.ntmps5
  go_wp2_with (first
    | (go_at_call 8; refine (graph_any w _ L HL.out hl).mono ?_; rintro e w1 ⟨E1, p1, c1, rfl, hg1, hs1, hn1, hr1, hb1⟩; have Hg1 := Lib.hid hg1; have Hs1 := Lib.hid hs1; have Hb1 := Lib.hid hb1; have Hn1 := Lib.hid hn1; clear hg1 hs1 hr1 hb1 hn1)
    | (go_at_call 9; refine (small_any w1 p n c R (H.out.below Hb1.out) hn Hrow.out Hwf.out).mono ?_; rintro e w2 ⟨E2, p2, c2, rfl, hg2, hs2, hn2, hr2, hb2⟩; have HG := Lib.hid (G2.make (c1 := c1) (c2 := c2) Hg1.out Hs1.out Hn1.out hb2 hg2 hs2 hn2); have Hb2 := Lib.hid (Hb1.out.step hb2); clear hg2 hs2 hr2 hb2 hn2))
  have Hb3 := Lib.hid (Hb2.out.step ((Below.refl w2.heap.size w2).alloc (Nat.le_refl _) (.cells #[.slice p1 E1.length c1, .slice p2 E2.length c2] 23)))
  generalize w2.alloc (.cells #[.slice p1 E1.length c1, .slice p2 E2.length c2] 23) = w3 at *
  generalize w2.heap.size = b at *
  clear Hg1 Hs1 Hn1 Hb1 Hb2
  go_loopw [22] (fun i wr => ∃ k : Nat, i = .int .i64 k ∧ k ≤ 2 ∧ Below w3.heap.size w3 wr) (fun i _ => 2 - (intOf i).toNat)
  case atStart => exact ⟨0, rfl, by omega, Below.refl _ _⟩
  case round =>
    obtain ⟨k, rfl, hk, hb⟩ := hrel
    have Hb := Lib.hid hb; clear hb
    by_cases hlt : k < 2
    · obtain ⟨E, pe, ce, z0, hbl, hg, hs, hn9⟩ := HG.out.below Hb.out k hlt
      have Hg := Lib.hid hg; have Hs := Lib.hid hs; have Hn9 := Lib.hid hn9
      have HF4 := Lib.hid (HF.out.below (Hb3.out.step Hb.out))
      obtain ⟨wo, hwo⟩ : ∃ wo : World, wo = wr := ⟨_, rfl⟩
      subst hwo
      clear hg hs hn9
      have f1 : (recB E F6 != recB E F6) = false := by simp
      go_wp2_with (first
        | (go_at_call 14; refine (same_any _ _ _ w6 (Hi5.out.below Hb6.out) Hi6.out (Nat.le_trans (marked_len _ _) (Nat.le_trans Hn9.out (by decide)))).mono ?_; rintro e w7 ⟨rfl, hb7⟩; have Hb7 := Lib.hid ((Hb5.out.step Hb6.out).step hb7); clear hb7)
        | (go_at_call 20; refine (refrec_any w8 pe _ ce E F6 _ (Hg.out.below Hb8.out) Hs.out (HF4.out.below Hb8.out) Hfl.out).mono ?_; rintro e w9 ⟨rfl, hb9⟩; have Hb9 := Lib.hid (Hb8.out.step hb9); clear hb9)
        | (go_at_call 19; refine (rec_any w7 pe _ ce E F6 _ (Hg.out.below Hb7.out) Hs.out (HF4.out.below Hb7.out) Hfl.out Hfw.out).mono ?_; rintro e w8 ⟨rfl, hb8⟩; have Hb8 := Lib.hid (Hb7.out.step hb8); clear hb8)
        | (go_at_call 17; refine (reach_any wo pe _ ce E F6 _ Hg.out Hs.out HF4.out Hfl.out).mono ?_; rintro e w5 h5; obtain ⟨p5, c5, rfl, hi5, hb5⟩ := h5.is; have Hi5 := Lib.hid hi5; have Hb5 := Lib.hid hb5; clear hi5 hb5 h5)
        | (go_at_call 18; refine (refreach_any w5 pe _ ce E F6 _ (Hg.out.below Hb5.out) Hs.out (HF4.out.below Hb5.out) Hfl.out).mono ?_; rintro e w6 h6; obtain ⟨p6, c6, rfl, hi6, hb6⟩ := h6.is; have Hi6 := Lib.hid hi6; have Hb6 := Lib.hid hb6; clear hi6 hb6 h6))
      have Hg9 := Lib.hid (Hg.out.below Hb9.out)
      have Hb39 := Lib.hid (Hb.out.step Hb9.out)
      clear Hb5 Hb6 Hb7 Hb8 Hi5 Hi6 f1
      go_loopw [45] (fun i wr => ∃ m : Nat, i = .int .i64 m ∧ m ≤ E.length ∧ Below w9.heap.size w9 wr) (fun i _ => E.length - (intOf i).toNat)
      case atStart => exact ⟨0, rfl, by omega, Below.refl _ _⟩
      case round =>
        obtain ⟨m, rfl, hm, hb⟩ := hrel
        have Hbi := Lib.hid hb
        have Hgi := Lib.hid (Hg9.out.below hb)
        clear hb
        by_cases hml : m < E.length
        · obtain ⟨wi, hwi⟩ : ∃ wi : World, wi = wr := ⟨_, rfl⟩
          subst hwi
          have f1 : (recB E [(m : Int)] != recB E [(m : Int)]) = false := by simp
          have hE9 := Hn9.out
          have Ho := Lib.hid (show Below wi.heap.size wi (wi.alloc (.cells #[.int .i64 m] 3)) from (Below.refl _ _).alloc (Nat.le_refl _) _)
          have HF1 := Lib.hid (show IS (wi.alloc (.cells #[.int .i64 m] 3)) (.slice (some ⟨wi.heap.size, 0, none⟩) 1 1) [(m : Int)] from is_row (xs := [(m : Int)]) (heap_alloc_new wi _) rfl)
          have Hm9 := Lib.hid (show ∀ x ∈ ([(m : Int)] : List Int), wfI x from fun x hx => by
            rw [List.mem_singleton] at hx; subst hx
            have := Hn9.out
            exact wfI_small (by omega) (by omega))
          go_upto_region 11 with fail
          have Hg4 := Lib.hid (Hgi.out.below Ho.out)
          have Hbo := Lib.hid (Hbi.out.step Ho.out)
          generalize wi.alloc (.cells #[.int .i64 m] 3) = w4 at *
          clear Ho
          generalize wi.heap.size = bi at *
          go_wp2_with (first
            | (go_at_call 14; refine (same_any _ _ _ x6 (Ii5.out.below Ib6.out) Ii6.out (Nat.le_trans (marked_len _ _) (Nat.le_trans Hn9.out (by decide)))).mono ?_; rintro e x7 ⟨rfl, hb7⟩; have Ib7 := Lib.hid ((Ib5.out.step Ib6.out).step hb7); clear hb7)
            | (go_at_call 20; refine (refrec_any x8 pe _ ce E [(m : Int)] _ (Hg4.out.below Ib8.out) Hs.out (HF1.out.below Ib8.out) (by simp)).mono ?_; rintro e x9 ⟨rfl, hb9⟩; have Ib9 := Lib.hid (Ib8.out.step hb9); clear hb9)
            | (go_at_call 19; refine (rec_any x7 pe _ ce E [(m : Int)] _ (Hg4.out.below Ib7.out) Hs.out (HF1.out.below Ib7.out) (by simp) Hm9.out).mono ?_; rintro e x8 ⟨rfl, hb8⟩; have Ib8 := Lib.hid (Ib7.out.step hb8); clear hb8)
            | (go_at_call 17; refine (reach_any w4 pe _ ce E [(m : Int)] _ Hg4.out Hs.out HF1.out (by simp)).mono ?_; rintro e x5 h5; obtain ⟨p5, c5, rfl, hi5, hb5⟩ := h5.is; have Ii5 := Lib.hid hi5; have Ib5 := Lib.hid hb5; clear hi5 hb5 h5)
            | (go_at_call 18; refine (refreach_any x5 pe _ ce E [(m : Int)] _ (Hg4.out.below Ib5.out) Hs.out (HF1.out.below Ib5.out) (by simp)).mono ?_; rintro e x6 h6; obtain ⟨p6, c6, rfl, hi6, hb6⟩ := h6.is; have Ii6 := Lib.hid hi6; have Ib6 := Lib.hid hb6; clear hi6 hb6 h6))
          exact ⟨⟨m + 1, by go_num, by omega, Hbo.out.step Ib9.out⟩, by simp [intOf]; omega⟩
        · obtain rfl : m = E.length := by omega
          have Hbx := Lib.hid (Hb39.out.step Hbi.out)
          go_wp2
          exact ⟨⟨k + 1, by go_num, by omega, Hbx.out⟩, by simp [intOf]; omega⟩
    · obtain rfl : k = 2 := by omega
      have Hbx := Lib.hid (Hb3.out.step Hb.out)
      go_wp2_with (first
        | (go_at_call 13; refine (awake_any _).mono ?_; rintro e w9 ⟨rfl, hb9⟩; have Hb9 := Lib.hid (Hbx.out.step hb9); clear hb9))
      go_ret
      exact ⟨rfl, Hb9.out⟩
end Go.Proofs.Yteejlibiidiibaa
