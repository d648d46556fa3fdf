/-
  Plain: a log behind a crash.
-/
import Derived.Test.YtmflngpgmmgohaaTp
import Derived.Test.YtmflngpgmmgohaaSp
namespace Go.Proofs.Ytmflngpgmmgohaa
open Go.RowKit

def SmallC (l : List Rec) : Prop := ∀ r ∈ l, r.1.size ≤ 20 ∧ r.2.size ≤ 30
theorem SmallC.small {l : List Rec} (h : SmallC l) : Small l := fun r hr => by have := h r hr; omega
theorem SmallC.snoc {l : List Rec} {r : Rec} (h : SmallC l) (h1 : r.1.size ≤ 20) (h2 : r.2.size ≤ 30) : SmallC (l ++ [r]) := fun x hx => by
  rcases List.mem_append.1 hx with hx | hx
  · exact h x hx
  · simp at hx; subst hx; exact ⟨h1, h2⟩
theorem framesB_size {l : List Rec} (h : SmallC l) : (framesB l).size ≤ 58 * l.length := by
  induction l with
  | nil => exact Nat.le_refl _
  | cons r l ih =>
    have h1 := h r (by simp)
    have h2 := ih (fun x hx => h x (by simp [hx]))
    have h3 := frameB_small (k := r.1) (d := r.2) (by omega) (by omega)
    simp only [framesB, ByteArray.size_append, List.length_cons]
    omega

/-- A log on a disk that is as it should be. -/
structure Log (Dk : DM) (l : List Rec) : Prop where
  data : Dk.data = framesB l
  syn : Dk.syn = Dk.data.size
  crashed : Dk.crashed = false
  armed : Dk.armed = false
  cap : Dk.cap = 5000
  small : SmallC l
  len : l.length ≤ 20
  l0 : -1 ≤ Dk.left
  l1 : Dk.left ≤ 9223372036854775807
  k0 : 0 ≤ Dk.keep
  k1 : Dk.keep ≤ 9223372036854775807

theorem Log.size {Dk : DM} {l : List Rec} (h : Log Dk l) : Dk.data.size ≤ 1160 := by
  have := framesB_size h.small; have := h.len; rw [h.data]; omega
theorem Log.ok {Dk : DM} {l : List Rec} (h : Log Dk l) : Dk.Ok := by
  have := h.size
  exact ⟨by rw [h.cap]; omega, by rw [h.cap]; omega, by rw [h.cap]; omega, by rw [h.syn]; exact Nat.le_refl _, h.l0, h.l1, (fun h9 => by rw [h.armed] at h9; cases h9), h.k0, h.k1⟩
theorem Log.fresh : Log (fresh 5000) [] := ⟨rfl, rfl, rfl, rfl, rfl, fun _ h => absurd h (by simp), by simp, by simp [Go.Proofs.Ytmflngpgmmgohaa.fresh], by simp [Go.Proofs.Ytmflngpgmmgohaa.fresh], by simp [Go.Proofs.Ytmflngpgmmgohaa.fresh], by simp [Go.Proofs.Ytmflngpgmmgohaa.fresh]⟩
theorem Log.put {Dk : DM} {l : List Rec} (h : Log Dk l) (hl : l.length ≤ 19) {k d : ByteArray} (hk : k.size ≤ 20) (hd : d.size ≤ 30) : putC Dk k d = 0 ∧ Log (putDk Dk k d) (l ++ [(k, d)]) := by
  have h1 := h.size
  have h2 := frameB_small (k := k) (d := d) (by omega) (by omega)
  obtain ⟨h3, h4⟩ := putC_quiet (k := k) (d := d) h.crashed h.armed (by rw [h.cap]; omega)
  refine ⟨h3, ?_⟩
  rw [h4]
  exact ⟨by rw [framesB_snoc, ← h.data], rfl, h.crashed, h.armed, h.cap, h.small.snoc hk hd, by simp; omega, h.l0, h.l1, h.k0, h.k1⟩

theorem ext_app (A fr : ByteArray) (kk : Nat) : (A ++ fr).extract 0 (A.size + min ((A ++ fr).size - A.size) kk) = A ++ fr.extract 0 (min fr.size kk) := by
  have e : (A ++ fr).size - A.size = fr.size := by rw [ByteArray.size_append]; omega
  rw [e]
  generalize min fr.size kk = q
  apply ByteArray.ext
  rw [ByteArray.data_extract, ByteArray.data_append, ByteArray.data_append, ByteArray.data_extract, show A.size = A.data.size from rfl]
  rw [Array.extract_append, Nat.zero_sub, Nat.add_sub_cancel_left, Array.extract_eq_self_of_le (Nat.le_add_right _ _)]
theorem ext_full (o : ByteArray) : o.extract 0 o.size = o := by simp

/-- What the disk is behind the last Put and the restart. -/
structure After (Dk : DM) (L : List Rec) : Prop where
  ok : Dk.Ok
  size : Dk.data.size ≤ 5000
  code : sopenC Dk = 0
  recs : (readV Dk.data).1 = L
  okO : (sopenDk Dk).Ok
  dataO : (sopenDk Dk).data = framesB L

theorem after_whole {Dk : DM} {L : List Rec} (hok : Dk.Ok) (hs : Dk.data.size ≤ 5000) (hd : Dk.data = framesB L) (hL : SmallC L) : After Dk L := by
  have hr : readV Dk.data = (L, ⟨#[]⟩) := by
    rw [hd]; have := readV_frames (P := ⟨#[]⟩) hL.small recV_empty; rwa [append_nil] at this
  have e0 : (readV Dk.data).2.size = 0 := by rw [hr]; rfl
  have e1 : sopenC Dk = 0 := by unfold sopenC; rw [if_pos e0]
  have e2 : sopenDk Dk = Dk := by unfold sopenDk; rw [if_pos e0]
  exact ⟨hok, hs, e1, by rw [hr], by rw [e2]; exact hok, by rw [e2]; exact hd⟩
theorem after_cut {Dk : DM} {L : List Rec} {P : ByteArray} (hok : Dk.Ok) (hs : Dk.data.size ≤ 5000) (hd : Dk.data = framesB L ++ P) (hP : recV P = none) (hL : SmallC L) (hc : Dk.crashed = false) (ha : Dk.armed = false) : After Dk L := by
  have hr : readV Dk.data = (L, P) := by rw [hd]; exact readV_frames hL.small hP
  by_cases h0 : P.size = 0
  · have : P = ⟨#[]⟩ := by
      cases P with
      | mk a => cases a with
        | mk l => cases l with
          | nil => rfl
          | cons x r => exact absurd h0 (by simp [ByteArray.size])
    subst this
    rw [append_nil] at hd
    exact after_whole hok hs hd hL
  · have e0 : ¬ (readV Dk.data).2.size = 0 := by rw [hr]; exact h0
    have hn : openN Dk.data = (framesB L).size := by unfold openN; rw [hr, hd, ByteArray.size_append]; dsimp only; omega
    have hsz : Dk.data.size = (framesB L).size + P.size := by rw [hd, ByteArray.size_append]
    have e3 : ¬ ((openN Dk.data : Int) < 0 ∨ (Dk.data.size : Int) < (openN Dk.data : Int)) := by rw [hn]; omega
    have e1 : sopenC Dk = 0 := by unfold sopenC; rw [if_neg e0]; unfold DM.truncC; rw [if_neg (by simp [hc]), if_neg e3]; simp [DM.strikes, ha]
    have e2 : sopenDk Dk = { Dk with data := framesB L, syn := min Dk.syn (framesB L).size } := by
      unfold sopenDk; rw [if_neg e0]; unfold DM.truncD; rw [if_neg (by simp [hc]), if_neg e3]
      rw [if_neg (by simp [DM.strikes, ha])]
      have : Dk.data.extract 0 (framesB L).size = framesB L := by rw [hd]; exact ext_left _ _
      simp [DM.struck, ha, hn, this]
    refine ⟨hok, hs, e1, by rw [hr], ?_, by rw [e2]⟩
    rw [e2]
    exact ⟨hok.cap0, hok.cap1, by have := hok.data; dsimp only; omega, by dsimp only; omega, hok.left0, hok.left1, hok.armed, hok.keep0, hok.keep1⟩

theorem max_keep {keep : Int} (h : keep ≤ 9223372036854775807) : 0 ≤ max keep 0 ∧ max keep 0 ≤ 9223372036854775807 := by omega

set_option maxRecDepth 100000 in
/-- Three ways: the code, and the records that the disk has. -/
theorem survive {Dk : DM} {l : List Rec} (h : Log Dk l) (hl : l.length ≤ 19) {k d : ByteArray} (hk : k.size ≤ 20) (hd : d.size ≤ 30) {n : Nat} (hn : n < 3) {keep : Int} (hkp : keep ≤ 9223372036854775807) :
    (Dk.armD n keep).Ok ∧
    ((putC (Dk.armD n keep) k d = 28 ∧ After (putDk (Dk.armD n keep) k d).restartD l) ∨
     (putC (Dk.armD n keep) k d = 28 ∧ After (putDk (Dk.armD n keep) k d).restartD (l ++ [(k, d)])) ∨
     (putC (Dk.armD n keep) k d = 0 ∧ After (putDk (Dk.armD n keep) k d).restartD (l ++ [(k, d)]))) := by
  have hsz := h.size
  have hok := h.ok
  have h2 := frameB_small (k := k) (d := d) (by omega) (by omega)
  have hcut := fun m hm => recV_cut (k := k) (d := d) (m := m) (by omega) (by omega) hm
  have hsn : framesB (l ++ [(k, d)]) = framesB l ++ frameB k d := framesB_snoc l (k, d)
  have hsm := h.small.snoc (r := (k, d)) hk hd
  have hmk := max_keep hkp
  have eA : Dk.armD n keep = { Dk with armed := true, left := (n : Int), keep := max keep 0 } := by
    unfold DM.armD; rw [if_neg (by simp [h.crashed])]
    have : max (n : Int) 0 = n := by omega
    rw [this]
  have hokA : (Dk.armD n keep).Ok := by
    rw [eA]
    exact ⟨hok.cap0, hok.cap1, hok.data, hok.syn, by dsimp only; omega, by dsimp only; omega, fun _ => by dsimp only; omega, hmk.1, hmk.2⟩
  refine ⟨hokA, ?_⟩
  unfold putC putDk
  rw [eA]
  generalize frameB k d = fr at *
  generalize max keep 0 = kk at *
  have hsy := h.syn
  have hcr := h.crashed
  have hcap := h.cap
  have hda := h.data
  obtain ⟨cap, data, syn, armed, left, keep0, crashed⟩ := Dk
  dsimp only at *
  subst hcr hsy hcap
  have hroom : ¬ ((fr.size : Int) > 5000 - (data.size : Int)) := by omega
  have hszd : (data ++ fr).size = data.size + fr.size := ByteArray.size_append
  have e5 : ∀ (x : Int), (⟨5000, (data ++ fr).extract 0 (data.size + min ((data ++ fr).size - data.size) kk.toNat), data.size, false, x, kk, true⟩ : DM) = ⟨5000, data ++ fr.extract 0 (min fr.size kk.toNat), data.size, false, x, kk, true⟩ := fun x => by rw [ext_app]
  have key : ∀ (x : Int), -1 ≤ x → x ≤ 9223372036854775807 →
      After (⟨5000, data ++ fr.extract 0 (min fr.size kk.toNat), data.size, false, x, kk, true⟩ : DM).restartD l ∨ After (⟨5000, data ++ fr.extract 0 (min fr.size kk.toNat), data.size, false, x, kk, true⟩ : DM).restartD (l ++ [(k, d)]) := by
    intro x hx0 hx1
    have hq : (fr.extract 0 (min fr.size kk.toNat)).size ≤ fr.size := extract_size_le _ _ _
    have eR : (⟨5000, data ++ fr.extract 0 (min fr.size kk.toNat), data.size, false, x, kk, true⟩ : DM).restartD = ⟨5000, data ++ fr.extract 0 (min fr.size kk.toNat), (data ++ fr.extract 0 (min fr.size kk.toNat)).size, false, x, kk, false⟩ := rfl
    rw [eR]
    have hsq : (data ++ fr.extract 0 (min fr.size kk.toNat)).size ≤ 1300 := by rw [ByteArray.size_append]; omega
    have hokR : (⟨5000, data ++ fr.extract 0 (min fr.size kk.toNat), (data ++ fr.extract 0 (min fr.size kk.toNat)).size, false, x, kk, false⟩ : DM).Ok :=
      ⟨by dsimp only; omega, by dsimp only; omega, by dsimp only; omega, Nat.le_refl _, hx0, hx1, (fun h => by cases h), hmk.1, hmk.2⟩
    by_cases hm : min fr.size kk.toNat < fr.size
    · exact .inl (after_cut hokR (by dsimp only; omega) (by dsimp only; rw [hda]) (hcut _ hm) h.small rfl rfl)
    · refine .inr (after_whole hokR (by dsimp only; omega) ?_ hsm)
      dsimp only
      have : min fr.size kk.toNat = fr.size := by omega
      rw [this, ext_full, hsn, hda]
  rcases (show n = 0 ∨ n = 1 ∨ n = 2 by omega) with rfl | rfl | rfl
  · skip
    have e1 : (⟨5000, data, data.size, true, ((0 : Nat) : Int), kk, false⟩ : DM).appendC fr = 28 := by simp [DM.appendC, DM.strikes]; omega
    have e2 : (⟨5000, data, data.size, true, ((0 : Nat) : Int), kk, false⟩ : DM).appendD fr = ⟨5000, (data ++ fr).extract 0 (data.size + min ((data ++ fr).size - data.size) kk.toNat), data.size, false, -1, kk, true⟩ := by
      unfold DM.appendD
      rw [if_neg (by simp), if_neg hroom, if_pos (by simp [DM.strikes])]
      simp [DM.struck, DM.crash]
    rw [e1, e2, e5]
    rcases key (-1) (by omega) (by omega) with h | h
    · exact .inl ⟨by simp, by simpa using h⟩
    · exact .inr (.inl ⟨by simp, by simpa using h⟩)
  · skip
    have e1 : (⟨5000, data, data.size, true, ((1 : Nat) : Int), kk, false⟩ : DM).appendC fr = 0 := by simp [DM.appendC, DM.strikes]; omega
    have e2 : (⟨5000, data, data.size, true, ((1 : Nat) : Int), kk, false⟩ : DM).appendD fr = ⟨5000, data ++ fr, data.size, true, 0, kk, false⟩ := by
      unfold DM.appendD
      rw [if_neg (by simp), if_neg hroom, if_neg (by simp [DM.strikes])]
      simp [DM.struck]
    have e3 : (⟨5000, data ++ fr, data.size, true, 0, kk, false⟩ : DM).syncC = 28 := by simp [DM.syncC, DM.strikes]
    have e4 : (⟨5000, data ++ fr, data.size, true, 0, kk, false⟩ : DM).syncD = ⟨5000, (data ++ fr).extract 0 (data.size + min ((data ++ fr).size - data.size) kk.toNat), data.size, false, -1, kk, true⟩ := by
      simp [DM.syncD, DM.strikes, DM.struck, DM.crash]
    rw [e1, e2, if_pos rfl, if_pos rfl, e3, e4, e5]
    rcases key (-1) (by omega) (by omega) with h | h
    · exact .inl ⟨rfl, h⟩
    · exact .inr (.inl ⟨rfl, h⟩)
  · skip
    have e1 : (⟨5000, data, data.size, true, ((2 : Nat) : Int), kk, false⟩ : DM).appendC fr = 0 := by simp [DM.appendC, DM.strikes]; omega
    have e2 : (⟨5000, data, data.size, true, ((2 : Nat) : Int), kk, false⟩ : DM).appendD fr = ⟨5000, data ++ fr, data.size, true, 1, kk, false⟩ := by
      unfold DM.appendD
      rw [if_neg (by simp), if_neg hroom, if_neg (by simp [DM.strikes])]
      simp [DM.struck]
    have e3 : (⟨5000, data ++ fr, data.size, true, 1, kk, false⟩ : DM).syncC = 0 := by simp [DM.syncC, DM.strikes]
    have e4 : (⟨5000, data ++ fr, data.size, true, 1, kk, false⟩ : DM).syncD = ⟨5000, data ++ fr, (data ++ fr).size, true, 0, kk, false⟩ := by
      simp [DM.syncD, DM.strikes, DM.struck]
    rw [e1, e2, if_pos rfl, if_pos rfl, e3, e4]
    refine .inr (.inr ⟨rfl, ?_⟩)
    have eR : (⟨5000, data ++ fr, (data ++ fr).size, true, 0, kk, false⟩ : DM).restartD = ⟨5000, data ++ fr, (data ++ fr).size, true, 0, kk, false⟩ := rfl
    rw [eR]
    refine after_whole ⟨by dsimp only; omega, by dsimp only; omega, by dsimp only; omega, Nat.le_refl _, by dsimp only; omega, by dsimp only; omega, fun _ => by dsimp only; omega, hmk.1, hmk.2⟩ (by dsimp only; omega) ?_ hsm
    dsimp only
    rw [hsn, hda]
end Go.Proofs.Ytmflngpgmmgohaa
