/-
  Walks: the law's sanity check.
-/
import Derived.Test.YtmflngpgmmgohaaSo
namespace Go.Proofs.Ytmflngpgmmgohaa
open Go.RowKit

def fresh (c : Int) : DM := ⟨c, ByteArray.empty, 0, false, 0, 0, false⟩
theorem fresh_ok {c : Int} (h0 : 0 ≤ c) (h1 : c ≤ 16777216) : (fresh c).Ok := ⟨h0, h1, by simpa [fresh] using h0, by simp [fresh], by simp [fresh], by simp [fresh], by simp [fresh], by simp [fresh], by simp [fresh]⟩
theorem readV_empty : readV ByteArray.empty = ([], ByteArray.empty) := rfl

theorem putC_quiet {Dk : DM} {k d : ByteArray} (h1 : Dk.crashed = false) (h2 : Dk.armed = false) (h3 : ((frameB k d).size : Int) ≤ Dk.cap - Dk.data.size) :
    putC Dk k d = 0 ∧ putDk Dk k d = { Dk with data := Dk.data ++ frameB k d, syn := (Dk.data ++ frameB k d).size } := by
  unfold putC putDk
  generalize frameB k d = fr at *
  have e1 : Dk.appendC fr = 0 := by simp [DM.appendC, h1, DM.strikes, h2]; omega
  have e2 : Dk.appendD fr = { Dk with data := Dk.data ++ fr } := by
    have : ¬ ((fr.size : Int) > Dk.cap - Dk.data.size) := by omega
    unfold DM.appendD; rw [if_neg (by simp [h1]), if_neg this]; simp [DM.strikes, DM.struck, h2]
  have e3 : ({ Dk with data := Dk.data ++ fr } : DM).syncC = 0 := by simp [DM.syncC, DM.strikes, h1, h2]
  have e4 : ({ Dk with data := Dk.data ++ fr } : DM).syncD = { Dk with data := Dk.data ++ fr, syn := (Dk.data ++ fr).size } := by simp [DM.syncD, DM.strikes, DM.struck, h1, h2]
  rw [if_pos e1, if_pos e1, e2]
  exact ⟨e3, e4⟩

theorem sopen_fresh (c : Int) (h0 : 0 ≤ c) (h1 : c ≤ 16777216) (w : World) :
    Calls Try.prog 34 #[.pointer (some ⟨w.heap.size, 0, none⟩)] (w.alloc (fresh c).obj) fun e w' => ∃ s mb, e = .returned (.tuple #[.pointer (some ⟨s, 0, none⟩), .int .i64 0]) ∧ Live w' s ⟨w.heap.size, mb, 0, 0, .map []⟩ 0 (fresh c) ∧ Below w.heap.size w w' ∧ w.heap.size < s ∧ w.heap.size < mb := by
  have hd : (fresh c).data = ByteArray.empty := rfl
  have e1 : sopenC (fresh c) = 0 := by unfold sopenC; rw [hd, readV_empty]; rfl
  have e2 : sopenDk (fresh c) = fresh c := by unfold sopenDk; rw [hd, readV_empty]; rfl
  refine (sopen_any w.heap.size (fresh c) _ (fresh_ok h0 h1) (heap_alloc_new _ _) (by rw [hd]; decide)).mono ?_
  rintro e w' ⟨hb, _, h | ⟨_, s, mb, rfl, hl, h3, h4⟩⟩
  · exact absurd e1 h.1
  · rw [e2, hd, show openN ByteArray.empty = 0 from rfl, readV_empty] at hl
    simp at h3 h4
    exact ⟨s, mb, rfl, hl, (((Below.refl w.heap.size w).alloc (Nat.le_refl _) _).trans (hb.below (by simp) (by simp))), by omega, by omega⟩

theorem frameB_small {k d : ByteArray} (hk : k.size ≤ 63) (hd : d.size ≤ 63) : (frameB k d).size ≤ k.size + d.size + 8 := by
  have h1 : (leb (k.size * 2)).length ≤ 1 := leb_length _ 1 (by omega) (by omega)
  have h2 : (leb (d.size * 2)).length ≤ 1 := leb_length _ 1 (by omega) (by omega)
  have h3 := textB_size k
  have h4 := textB_size d
  have h5 : (textB k ++ textB d).size ≤ k.size + d.size + 2 := by rw [ByteArray.size_append]; omega
  have h6 := sealB_size (textB k ++ textB d)
  have h7 : (leb ((sealB (textB k ++ textB d)).size * 2)).length ≤ 2 := leb_length _ 2 (by omega) (by omega)
  have h8 := textB_size (sealB (textB k ++ textB d))
  unfold frameB; omega

abbrev kA : ByteArray := ⟨#[97]⟩
abbrev d1 : ByteArray := ⟨#[49]⟩
abbrev d2 : ByteArray := ⟨#[50]⟩
def D1 : MD := setD (.map []) kA d1
def D2 : MD := setD D1 kA d2
theorem has_D2 : Maps.has D2 (sk kA) = true := by kernel_rfl
theorem get_D2 {v : ByteArray} (h : getD D2 kA = .lit (.string v.data.toList)) : v = d2 := by
  have e : getD D2 kA = .lit (.string [50]) := by kernel_rfl
  rw [e] at h
  simp only [DataW.lit.injEq, Lit.string.injEq] at h
  cases v with
  | mk a => cases a with
    | mk l => simp at h; subst h; rfl

set_option maxRecDepth 100000 in
set_option maxHeartbeats 8000000 in
theorem awake_any (w : World) :
    Calls Try.prog 29 #[] w fun e w' => e = .returned (.bool true) ∧ Below w.heap.size w w' := by
  have hf1 := frameB_small (k := kA) (d := d1) (by decide) (by decide)
  have hf2 := frameB_small (k := kA) (d := d2) (by decide) (by decide)
  rw [show kA.size = 1 from rfl, show d1.size = 1 from rfl] at hf1
  rw [show kA.size = 1 from rfl, show d2.size = 1 from rfl] at hf2
  obtain ⟨hp1, hq1⟩ := putC_quiet (Dk := fresh 200) (k := kA) (d := d1) rfl rfl (by simp [fresh]; omega)
  have hz1 : (putDk (fresh 200) kA d1).data.size ≤ 10 := by rw [hq1]; simp [fresh]; omega
  have hc1 : (putDk (fresh 200) kA d1).crashed = false ∧ (putDk (fresh 200) kA d1).armed = false ∧ (putDk (fresh 200) kA d1).cap = 200 := by rw [hq1]; exact ⟨rfl, rfl, rfl⟩
  have hok1 : (putDk (fresh 200) kA d1).Ok := by rw [hq1]; exact ⟨by simp [fresh], by simp [fresh], by simp [fresh]; omega, by simp, by simp [fresh], by simp [fresh], by simp [fresh], by simp [fresh], by simp [fresh]⟩
  obtain ⟨hp2, -⟩ := putC_quiet (Dk := putDk (fresh 200) kA d1) (k := kA) (d := d2) hc1.1 hc1.2.1 (by rw [hc1.2.2]; omega)
  have hS1 : ∀ db mb, putS ⟨db, mb, 0, 0, .map []⟩ (fresh 200) kA d1 = ⟨db, mb, 1, 0 + (frameB kA d1).size, D1⟩ := fun db mb => by unfold putS; rw [if_pos hp1]; rfl
  have hS2 : ∀ db mb, putS ⟨db, mb, 1, 0 + (frameB kA d1).size, D1⟩ (putDk (fresh 200) kA d1) kA d2 = ⟨db, mb, 2, 0 + (frameB kA d1).size + (frameB kA d2).size, D2⟩ := fun db mb => by unfold putS; rw [if_pos hp2]; rfl
  have hN : Calls Try.prog 11 #[.int .i64 200] w fun e w' => e = .returned (.pointer (some ⟨w.heap.size, 0, none⟩)) ∧ w.alloc (fresh 200).obj = w' := new_any 200 w
  have hO := sopen_fresh 200 (by omega) (by omega) w
  have hP1 := fun s mb w1 h => put_any s ⟨w.heap.size, mb, 0, 0, .map []⟩ 0 (fresh 200) kA d1 w1 h (fresh_ok (by omega) (by omega)) (by decide) (by decide) (by omega) (by simp) (by simp)
  simp only [hp1, hS1] at hP1
  have hP2 := fun s mb w1 h => put_any s ⟨w.heap.size, mb, 1, 0 + (frameB kA d1).size, D1⟩ (0 + 1) (putDk (fresh 200) kA d1) kA d2 w1 h hok1 (by decide) (by decide) (by omega) (by simp) (by simp; omega)
  simp only [hp2, hS2] at hP2
  have hG := fun s mb nn n size w1 h => get_any s ⟨w.heap.size, mb, n, size, D2⟩ nn kA w1 h (by decide)
  simp only [has_D2] at hG
  generalize putDk (fresh 200) kA d1 = E1 at *
  generalize putDk E1 kA d2 = E2 at *
  generalize 0 + (frameB kA d1).size + (frameB kA d2).size = z2 at *
  generalize 0 + (frameB kA d1).size = z1 at *
  have hob : (fresh 200).obj = (fresh 200).obj := rfl
  generalize hF : fresh 200 = F0 at *
  clear hf1 hf2 hc1 hok1 hz1 hq1 hp1 hp2 hS1 hS2 hF hob
  go_enter Try.func29, Try.ntmps29
  go_wp2_with (first
    | (with_reducible refine Lex.wp_region_lex (by kernel_rfl) (by decide +kernel) ?_)
    | (with_reducible refine Lex.fin_on (by kernel_rfl) ?_)
    | (go_at_call 11; refine hN.mono ?_; rintro e w1 ⟨rfl, rfl⟩)
    | (go_at_call 34; refine hO.mono ?_; rintro e w2 ⟨s, mb, rfl, hl2, hb2, hs2, hm2⟩; have HL2 := Lib.hid hl2; clear hl2)
    | (go_at_call 35; first
        | (with_reducible refine (hP1 s mb _ HL2.out).mono ?_; rintro e w3 ⟨rfl, hl3, hb3⟩; have HL3 := Lib.hid hl3; clear hl3)
        | (with_reducible refine (hP2 s mb _ HL3.out).mono ?_; rintro e w4 ⟨rfl, hl4, hb4⟩; have HL4 := Lib.hid hl4; clear hl4))
    | (go_at_call 38; refine (hG s mb _ _ _ _ HL4.out.st).mono ?_; rintro e w5 ⟨⟨v, rfl, hv⟩, rfl⟩; obtain rfl := get_D2 hv; clear hv)
    | (go_at_call 36; refine (slen_any s _ _ _ HL4.out.st).mono ?_; rintro e w6 ⟨rfl, rfl⟩))
  go_ret
  exact ⟨rfl, hb2.trans ((hb3.trans hb4).below hb2.size (by simp; omega))⟩
end Go.Proofs.Ytmflngpgmmgohaa
