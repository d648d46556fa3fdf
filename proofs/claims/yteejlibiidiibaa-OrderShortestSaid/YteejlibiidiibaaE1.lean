/-
  Walks: the reference's Reach.
-/
import Derived.Test.YteejlibiidiibaaD1
import Derived.Deep.OwnRows
namespace Go.Proofs.Yteejlibiidiibaa
open Go.RowKit
set_option maxRecDepth 100000
def markF (n : Nat) (f : Nat → Bool) (x : Int) : Nat → Bool := if nodeB n x then setM f x.toNat else f
/-- The marks of a list's nodes. -/
def addM (n : Nat) (f : Nat → Bool) (F : List Int) : Nat → Bool := F.foldl (markF n) f
theorem addM_snoc (n : Nat) (f : Nat → Bool) (F : List Int) (x : Int) : addM n f (F ++ [x]) = markF n (addM n f F) x := by
  unfold addM; rw [List.foldl_append]; rfl
theorem addM_take {n : Nat} {f : Nat → Bool} {F : List Int} {k : Nat} (h : k < F.length) : addM n f (F.take (k + 1)) = markF n (addM n f (F.take k)) F[k] := by
  rw [List.take_succ_eq_append_getElem h, addM_snoc]
theorem addM_iff {n : Nat} : ∀ {F : List Int} {f : Nat → Bool} {m : Nat}, m < n → (addM n f F m = true ↔ f m = true ∨ (m : Int) ∈ F)
  | [], f, m, _ => by simp [addM]
  | x :: F, f, m, hm => by
    have h := addM_iff (F := F) (f := markF n f x) hm
    show addM n (markF n f x) F m = true ↔ _
    rw [h, List.mem_cons]
    unfold markF
    split
    · rename_i hx
      obtain ⟨h1, h2⟩ := nodeB_iff.1 hx
      unfold setM
      by_cases e : m = x.toNat
      · have : (m : Int) = x := by omega
        rw [if_pos e]; simp [this]
      · have : ¬ (m : Int) = x := by omega
        simp [e, this]
    · rename_i hx
      have : ¬ (m : Int) = x := by
        intro e
        exact hx (nodeB_iff.2 ⟨by omega, by omega⟩)
      simp [this]
theorem addM_inS {n : Nat} {F : List Int} {m : Nat} (hm : m < n) : addM n (fun _ => false) F m = inS F m := by
  rw [Bool.eq_iff_iff, addM_iff hm]
  simp [inS]
theorem rb_congr {E : Gr} {S T : Nat → Bool} (h : ∀ k, k < E.length → S k = T k) (k : Nat) : rb E S k = rb E T k := by
  rw [Bool.eq_iff_iff, rb_iff, rb_iff]
  exact ⟨fun r => r.mono fun i hi hs => .base i (by rw [← h i hi]; exact hs) hi, fun r => r.mono fun i hi hs => .base i (by rw [h i hi]; exact hs) hi⟩
theorem bool_info : (Try.prog.info? 4).map (fun i => (i.zero, i.size, i.bytes)) = some (some (.bool false), 1, 1) := by kernel_rfl
theorem BT.made (w : World) (n : Nat) : BT (w.alloc (.cells (madeCells #[.bool false] n) 4)) w.heap.size n fun _ => false := by
  refine ⟨_, heap_alloc_new w _, fun m hm => ?_⟩
  simp [madeCells, hm, Nat.mod_one]
set_option maxHeartbeats 8000000 in
theorem refreach_any (w : World) (p : Option Addr) (n c : Nat) (E : Gr) (F : List Int) (vf : Value) (h : GS w p n E) (hs : SmallG E) (hF : IS w vf F) (hFl : F.length ≤ 100000) :
    Calls Try.prog 18 #[.slice p n c, vf] w (LO (marked n (rb E (inS F))) w) := by
  obtain ⟨q, cq, rfl, hq, hrc⟩ := hF
  have hn : n ≤ 100000 := by rw [h.len]; exact hs.nodes
  obtain ⟨ib, hi, hz, hz1, hz2⟩ := info_parts bool_info
  have Hn := Lib.hid h.len
  have H := Lib.hid h; have HS := Lib.hid hs; have Hrc := Lib.hid hrc
  have Hi := Lib.hid hi; have Hz := Lib.hid hz; have Hz1 := Lib.hid hz1; have Hz2 := Lib.hid hz2
  have B0 := (Below.refl w.heap.size w).alloc (Nat.le_refl _) (.cells (madeCells #[.bool false] n) 4)
  have T0 := Lib.hid (BT.made w n)
  clear h hs hrc hi hz hz1 hz2
  go_enter Try.func18, Try.ntmps18
  go_wp2_with (refine wpList_make_row w rfl (.tmp 9) (.tmp 9) 46 rfl 4 ib (.bool false) (by kernel_rfl) Hi.out Hz.out Hz1.out rfl .i64 .i64 n rfl rfl (by rw [Hz2.out]; omega) (by omega) ?_; generalize w.alloc (.cells (madeCells #[.bool false] n) 4) = w1 at *)
  have HB0 := Lib.hid B0; clear B0
  go_loopw [13] (fun i wr => ∃ k : Nat, i = .int .i64 k ∧ k ≤ F.length ∧ BT wr w.heap.size n (addM n (fun _ => false) (F.take k)) ∧ Tch w.heap.size w1 wr) (fun i _ => F.length - (intOf i).toNat)
  case atStart => exact ⟨0, rfl, by omega, T0.out, T0.out.tch⟩
  case round =>
    obtain ⟨k, rfl, hk, ht, hu⟩ := hrel
    by_cases hlt : k < F.length
    · obtain ⟨a2, o2, rfl, ha2, z0⟩ := (Hrc.out.below (HB0.out.trans (hu.below (Nat.le_refl _)))).at hlt
      have Hst := Lib.hid (addM_take (n := n) (f := fun _ => false) hlt)
      generalize addM n (fun _ => false) (F.take k) = g at *
      generalize F[k] = x at *
      have Ht := Lib.hid ht; have Hu := Lib.hid hu; clear ht hu
      by_cases hx0 : 0 ≤ x
      · have d0 : decide (0 ≤ x) = true := by simp [hx0]
        by_cases hxn : x < (n : Int)
        · have Hf := Lib.hid (show markF n g x = setM g x.toNat by unfold markF; rw [nodeB_iff.2 ⟨hx0, hxn⟩]; rfl)
          obtain ⟨xn, rfl⟩ : ∃ xn : Nat, x = (xn : Int) := ⟨x.toNat, by omega⟩
          have hxl : xn < n := by omega
          have z2 := Ht.out.free xn
          have z3 := Ht.out.cell hxl
          have Hset := Lib.hid (Ht.out.setM hxl)
          clear hx0 hxn
          go_wp2
          exact ⟨⟨k + 1, by go_num, by omega, by rw [Hst.out, Hf.out]; exact Hset.out.1, Hu.out.trans Hset.out.2⟩, by simp [intOf]; omega⟩
        · have Hf := Lib.hid (show markF n g x = g by unfold markF; rw [show nodeB n x = false by simp [nodeB, hxn]]; rfl)
          have d1 : decide (x < (n : Int)) = false := by simp [hxn]
          go_wp2
          exact ⟨⟨k + 1, by go_num, by omega, by rw [Hst.out, Hf.out]; exact Ht.out, Hu.out⟩, by simp [intOf]; omega⟩
      · have Hf := Lib.hid (show markF n g x = g by unfold markF; rw [show nodeB n x = false by simp [nodeB, hx0]]; rfl)
        have d0 : decide (0 ≤ x) = false := by simp [hx0]
        go_wp2
        exact ⟨⟨k + 1, by go_num, by omega, by rw [Hst.out, Hf.out]; exact Ht.out, Hu.out⟩, by simp [intOf]; omega⟩
    · obtain rfl : k = F.length := by omega
      rw [List.take_length] at ht
      have Ht := Lib.hid ht; have Hu := Lib.hid hu; clear ht hu
      have Hb1 := Lib.hid (HB0.out.trans (Hu.out.below (Nat.le_refl _)))
      go_wp2_with (first
        | (go_at_call 32; refine (marks_any w wr p n c w.heap.size n E _ H.out HS.out Hb1.out (Nat.le_refl _) Ht.out).mono ?_; rintro e w3 ⟨rfl, ht3, hu3⟩; have Ht3 := Lib.hid ht3; have Hu3 := Lib.hid hu3; clear ht3 hu3)
        | (go_at_call 31; refine (list_any w.heap.size n n _ w3 Ht3.out hn).mono ?_; rintro e w4 ⟨v4, rfl, ho4, hb4⟩; have Ho4 := Lib.hid ho4; have Hb4 := Lib.hid hb4; clear ho4 hb4))
      go_ret
      have hb3 := Hb1.out.trans (Hu3.out.below (Nat.le_refl _))
      rw [marked_congr (g := iterM E (addM n (fun _ => false) F) (n + 1)) fun k hk => by
        have hn := Hn.out
        subst hn
        rw [iterM_rb E _ hk]
        exact rb_congr (fun i hi => (addM_inS hi).symm) k]
      exact ⟨v4, rfl, ownsRow_lower Ho4.out hb3.size, hb3.step Hb4.out⟩
end Go.Proofs.Yteejlibiidiibaa
