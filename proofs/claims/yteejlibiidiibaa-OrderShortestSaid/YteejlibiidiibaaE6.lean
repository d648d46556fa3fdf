/-
  Walks: the reference's Recursive.
-/
import Derived.Test.YteejlibiidiibaaE5
namespace Go.Proofs.Yteejlibiidiibaa
open Go.RowKit
set_option maxRecDepth 100000
set_option maxHeartbeats 8000000 in
theorem refrec_any (w : World) (p : Option Addr) (n c : Nat) (E : Gr) (F : List Int) (vf : Value) (h : GS w p n E) (hs : SmallG E) (hF : IS w vf F) (hFl : F.length ≤ 100000) :
    Calls Try.prog 20 #[.slice p n c, vf] w (ER (recB E F) w) := by
  have hn : n ≤ 100000 := by rw [h.len]; exact hs.nodes
  have hin := fun (x : Int) (w' : World) (hb : Below w.heap.size w w') => in_any vf F x w' (hF.below hb) (by omega)
  obtain ⟨q, cq, rfl, hq, hrc⟩ := hF
  have Hn := Lib.hid h.len
  have H := Lib.hid h; have HS := Lib.hid hs; have Hrc := Lib.hid hrc; have Hin := Lib.hid hin
  clear h hs hrc hin
  go_enter Try.func20, Try.ntmps20
  go_wp2
  go_loopw [11] (fun i wr => ∃ k : Nat, i = .int .i64 k ∧ k ≤ F.length ∧ (F.take k).any (badB E F) = false ∧ Below w.heap.size w wr) (fun i _ => F.length - (intOf i).toNat)
  case atStart => exact ⟨0, rfl, by omega, by simp, Below.refl _ _⟩
  case round =>
    obtain ⟨k, rfl, hk, ha, hb⟩ := hrel
    have Ha := Lib.hid ha; have Hb := Lib.hid hb; clear ha hb
    by_cases hlt : k < F.length
    · obtain ⟨a, o, rfl, hab, z0⟩ := (Hrc.out.below Hb.out).at hlt
      have hst := any_take_succ (p := badB E F) hlt
      have hany : badB E F F[k] = true → recB E F = true := fun h => by
        unfold recB; rw [List.any_eq_true]; exact ⟨_, List.getElem_mem hlt, h⟩
      rw [Ha.out, Bool.false_or] at hst
      have Hst := Lib.hid hst; have Hany := Lib.hid hany
      generalize F[k] = x at *
      clear hst hany
      by_cases hx0 : 0 ≤ x
      · have d0 : decide (x < 0) = false := by simp; omega
        by_cases hxn : x < (n : Int)
        · have d1 : decide ((n : Int) ≤ x) = false := by simp; omega
          obtain ⟨xi, rfl⟩ : ∃ xi : Nat, x = (xi : Int) := ⟨x.toNat, by omega⟩
          have hxl : xi < n := by omega
          have d2 : decide (n ≤ xi) = false := by simp; omega
          clear d1
          obtain ⟨a, o, qr, cr, rfl, ha, hqr, hcell, hrc⟩ := H.out.row (k := xi) (by rw [← Hn.out]; exact hxl)
          have hL : E[xi].length ≤ 100000 := HS.out.row xi _
          have zr := hcell wr Hb.out
          have Hrow := Lib.hid hrc
          have Hbad := Lib.hid (show badB E F (xi : Int) = E[xi].any fun y => nodeB n y && decide (y ∈ F) from by
            have hnl : n = E.length := Hn.out
            subst hnl
            unfold badB
            rw [nodeB_nat, Int.toNat_natCast, getD_at hxl]
            simp [hxl])
          generalize E[xi] = L at *
          clear hcell hrc hx0 hxn
          obtain ⟨wq, rfl⟩ : ∃ wq : World, wq = wr := ⟨_, rfl⟩
          go_wp2
          go_loopw [28] (fun j wr => ∃ m : Nat, j = .int .i64 m ∧ m ≤ L.length ∧ (L.take m).any (fun y => nodeB n y && decide (y ∈ F)) = false ∧ Below w.heap.size w wr) (fun j _ => L.length - (intOf j).toNat)
          case atStart => exact ⟨0, rfl, by omega, by simp, Hb.out⟩
          case round =>
            obtain ⟨m, rfl, hm, ha3, hb3⟩ := hrel
            have Ha3 := Lib.hid ha3; have Hb3 := Lib.hid hb3; clear ha3 hb3
            by_cases hlm : m < L.length
            · obtain ⟨a2, o2, rfl, ha2, z1⟩ := (Hrow.out wr Hb3.out).at hlm
              have hst := any_take_succ (p := fun y => nodeB n y && decide (y ∈ F)) hlm
              have hany : (L.take (m + 1)).any (fun y => nodeB n y && decide (y ∈ F)) = true → L.any (fun y => nodeB n y && decide (y ∈ F)) = true := any_of_take
              rw [Ha3.out, Bool.false_or] at hst
              have Hst3 := Lib.hid hst; have Hany3 := Lib.hid hany
              generalize L[m] = y at *
              clear hst hany
              have Hcall := Lib.hid (Hin.out y wr Hb3.out)
              by_cases hy0 : 0 ≤ y
              · have e0 : decide (0 ≤ y) = true := by simp [hy0]
                by_cases hyn : y < (n : Int)
                · have e1 : decide (y < (n : Int)) = true := by simp [hyn]
                  have hno : nodeB n y = true := nodeB_iff.2 ⟨hy0, hyn⟩
                  cases hyF : decide (y ∈ F) with
                  | true =>
                    have Hr := Lib.hid (Hany.out (Hbad.out.trans (Hany3.out (Hst3.out.trans (by rw [hno, hyF]; rfl)))))
                    rw [hyF] at Hcall
                    clear hyF hno
                    go_wp2_with (go_at_call 21; refine Hcall.out.mono ?_; rintro e w5 ⟨rfl, hb5⟩; have Hb5 := Lib.hid hb5; clear hb5)
                    go_ret
                    rw [Hr.out]
                    exact ⟨rfl, Hb3.out.step Hb5.out⟩
                  | false =>
                    have Hs := Lib.hid (Hst3.out.trans (show (nodeB n y && decide (y ∈ F)) = false by rw [hno, hyF]; rfl))
                    rw [hyF] at Hcall
                    clear hyF hno
                    go_wp2_with (go_at_call 21; refine Hcall.out.mono ?_; rintro e w5 ⟨rfl, hb5⟩; have Hb5 := Lib.hid hb5; clear hb5)
                    exact ⟨⟨m + 1, by go_num, by omega, Hs.out, Hb3.out.step Hb5.out⟩, by simp [intOf]; omega⟩
                · have e1 : decide (y < (n : Int)) = false := by simp; omega
                  have Hs := Lib.hid (Hst3.out.trans (show (nodeB n y && decide (y ∈ F)) = false by simp [nodeB, hyn]))
                  go_wp2
                  exact ⟨⟨m + 1, by go_num, by omega, Hs.out, Hb3.out⟩, by simp [intOf]; omega⟩
              · have e0 : decide (0 ≤ y) = false := by simp [hy0]
                have Hs := Lib.hid (Hst3.out.trans (show (nodeB n y && decide (y ∈ F)) = false by simp [nodeB, hy0]))
                go_wp2
                exact ⟨⟨m + 1, by go_num, by omega, Hs.out, Hb3.out⟩, by simp [intOf]; omega⟩
            · obtain rfl : m = L.length := by omega
              have Hs := Lib.hid (Hst.out.trans (Hbad.out.trans (show (L.any fun y => nodeB n y && decide (y ∈ F)) = false by have := Ha3.out; rwa [List.take_length] at this)))
              go_wp2
              exact ⟨⟨k + 1, by go_num, by omega, Hs.out, Hb3.out⟩, by simp [intOf]; omega⟩
        · have d1 : decide ((n : Int) ≤ x) = true := by rw [decide_eq_true_iff]; omega
          have Hs := Lib.hid (Hst.out.trans (show badB E F x = false by unfold badB; rw [← Hn.out]; simp [nodeB, hxn]))
          go_wp2
          exact ⟨⟨k + 1, by go_num, by omega, Hs.out, Hb.out⟩, by simp [intOf]; omega⟩
      · have d0 : decide (x < 0) = true := by simp; omega
        have Hs := Lib.hid (Hst.out.trans (show badB E F x = false by unfold badB; simp [nodeB, hx0]))
        go_wp2
        exact ⟨⟨k + 1, by go_num, by omega, Hs.out, Hb.out⟩, by simp [intOf]; omega⟩
    · obtain rfl : k = F.length := by omega
      have Hr := Lib.hid (show recB E F = false by have := Ha.out; rwa [List.take_length] at this)
      go_wp2
      go_ret
      rw [Hr.out]
      exact ⟨rfl, Hb.out⟩
end Go.Proofs.Yteejlibiidiibaa
