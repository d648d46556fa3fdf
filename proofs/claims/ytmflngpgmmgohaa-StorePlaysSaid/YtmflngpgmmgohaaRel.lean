/-
  The disk and the reference's disk: the two models step alike.
-/
import Derived.Test.YtmflngpgmmgohaaRef
namespace Go.Proofs.Ytmflngpgmmgohaa
open Go.RowKit

structure Rel (D : DM) (R : RM) : Prop where
  data : R.data = D.data
  syn : R.safe = D.syn
  cap : R.cap = D.cap
  crashed : R.crashed = D.crashed
  armed : D.crashed = false → R.armed = D.armed
  left : D.crashed = false → D.armed = true → R.left = D.left
  keep : D.crashed = false → D.armed = true → max R.keep 0 = D.keep
  okD : D.Ok
  okR : R.Ok

/-- The two, written out, where the disk has not crashed. -/
theorem rel_split {D : DM} {R : RM} (h : Rel D R) :
    (D.crashed = true ∧ R.crashed = true) ∨
    ∃ cap data syn armed left keep rk rl, D = ⟨cap, data, syn, armed, left, keep, false⟩ ∧ R = ⟨data, syn, cap, rk, armed, false, rl⟩ ∧ (armed = true → rl = left ∧ max rk 0 = keep) ∧
      0 ≤ cap ∧ cap ≤ 16777216 ∧ (data.size : Int) ≤ cap ∧ syn ≤ data.size ∧ -1 ≤ left ∧ left ≤ 9223372036854775807 ∧ (armed = true → 0 ≤ left) ∧ 0 ≤ keep ∧ keep ≤ 9223372036854775807 ∧ 0 ≤ rl ∧ rl ≤ 9223372036854775807 ∧ rk ≤ 9223372036854775807 := by
  obtain ⟨cap, data, syn, armed, left, keep, crashed⟩ := D
  obtain ⟨rd, rs, rc, rk, ra, rcr, rl⟩ := R
  obtain ⟨h1, h2, h3, h4, h5, h6, h7, ⟨d1, d2, d3, d4, d5, d6, d7, d8, d9⟩, ⟨r1, r2, r3, r4, r5, r6, r7⟩⟩ := h
  dsimp only at *
  subst h1 h2 h3 h4
  cases rcr with
  | true => exact .inl ⟨rfl, rfl⟩
  | false =>
    obtain rfl := h5 rfl
    exact .inr ⟨_, _, _, _, _, _, _, _, rfl, rfl, fun ha => ⟨h6 rfl ha, h7 rfl ha⟩, d1, d2, d3, d4, d5, d6, d7, d8, d9, r5, r6, r7⟩

theorem rel_mk {cap : Int} {data : ByteArray} {syn : Nat} {armed crashed : Bool} {left keep rk rl : Int} (h : crashed = false → armed = true → rl = left ∧ max rk 0 = keep)
    (d1 : 0 ≤ cap) (d2 : cap ≤ 16777216) (d3 : (data.size : Int) ≤ cap) (d4 : syn ≤ data.size) (d5 : -1 ≤ left) (d6 : left ≤ 9223372036854775807) (d7 : armed = true → 0 ≤ left) (d8 : 0 ≤ keep) (d9 : keep ≤ 9223372036854775807) (r5 : 0 ≤ rl) (r6 : rl ≤ 9223372036854775807) (r7 : rk ≤ 9223372036854775807) :
    Rel ⟨cap, data, syn, armed, left, keep, crashed⟩ ⟨data, syn, cap, rk, armed, crashed, rl⟩ :=
  ⟨rfl, rfl, rfl, rfl, fun _ => rfl, fun a b => (h a b).1, fun a b => (h a b).2, ⟨d1, d2, d3, d4, d5, d6, d7, d8, d9⟩, ⟨d1, d2, d3, d4, r5, r6, r7⟩⟩

theorem rel_append {D : DM} {R : RM} (h : Rel D R) (s : ByteArray) : R.appendC s = D.appendC s ∧ Rel (D.appendD s) (R.appendR s) := by
  rcases rel_split h with ⟨hc, hc'⟩ | ⟨cap, data, syn, armed, left, keep, rk, rl, rfl, rfl, ha, d1, d2, d3, d4, d5, d6, d7, d8, d9, r5, r6, r7⟩
  · simp only [DM.appendC, DM.appendD, RM.appendC, RM.appendR, hc, hc', if_true, true_and]
    exact h
  have hz : (data ++ s).size = data.size + s.size := by simp
  by_cases hf : cap - (data.size : Int) < s.size
  · have e1 : DM.appendC ⟨cap, data, syn, armed, left, keep, false⟩ s = 27 ∧ DM.appendD ⟨cap, data, syn, armed, left, keep, false⟩ s = ⟨cap, data, syn, armed, left, keep, false⟩ := by simp [DM.appendC, DM.appendD, hf]
    have e2 : RM.appendC ⟨data, syn, cap, rk, armed, false, rl⟩ s = 27 ∧ RM.appendR ⟨data, syn, cap, rk, armed, false, rl⟩ s = ⟨data, syn, cap, rk, armed, false, rl⟩ := by simp [RM.appendC, RM.appendR, hf]
    rw [e1.1, e1.2, e2.1, e2.2]
    exact ⟨rfl, h⟩
  cases armed with
  | false =>
    have e1 : DM.appendC ⟨cap, data, syn, false, left, keep, false⟩ s = 0 ∧ DM.appendD ⟨cap, data, syn, false, left, keep, false⟩ s = ⟨cap, data ++ s, syn, false, left, keep, false⟩ := by simp [DM.appendC, DM.appendD, DM.strikes, DM.struck, hf]
    have e2 : RM.appendC ⟨data, syn, cap, rk, false, false, rl⟩ s = 0 ∧ RM.appendR ⟨data, syn, cap, rk, false, false, rl⟩ s = ⟨data ++ s, syn, cap, rk, false, false, rl⟩ := by simp [RM.appendC, RM.appendR, RM.booms, RM.boomR, hf]
    rw [e1.1, e1.2, e2.1, e2.2]
    exact ⟨rfl, rel_mk (fun _ h => by cases h) d1 d2 (by omega) (by omega) d5 d6 (fun h => by cases h) d8 d9 r5 r6 r7⟩
  | true =>
    obtain ⟨rfl, rfl⟩ := ha rfl
    have hl := d7 rfl
    by_cases hx : rl ≤ 0
    · have hx' : rl - 1 < 0 := by omega
      have e1 : DM.appendC ⟨cap, data, syn, true, rl, max rk 0, false⟩ s = 28 ∧ DM.appendD ⟨cap, data, syn, true, rl, max rk 0, false⟩ s = ⟨cap, (data ++ s).extract 0 (syn + min ((data ++ s).size - syn) (max rk 0).toNat), syn, false, rl - 1, max rk 0, true⟩ := by simp [DM.appendC, DM.appendD, DM.strikes, DM.struck, DM.crash, hf, hx']
      have e2 : RM.appendC ⟨data, syn, cap, rk, true, false, rl⟩ s = 28 ∧ RM.appendR ⟨data, syn, cap, rk, true, false, rl⟩ s = ⟨(data ++ s).extract 0 (syn + min ((data ++ s).size - syn) (max rk 0).toNat), syn, cap, rk, false, true, rl⟩ := by simp [RM.appendC, RM.appendR, RM.booms, RM.boomR, hf, hx]
      rw [e1.1, e1.2, e2.1, e2.2]
      have hz2 : ((data ++ s).extract 0 (syn + min ((data ++ s).size - syn) (max rk 0).toNat)).size = syn + min ((data ++ s).size - syn) (max rk 0).toNat := by simp; omega
      exact ⟨rfl, rel_mk (fun h => by cases h) d1 d2 (by omega) (by omega) (by omega) (by omega) (fun h => by cases h) d8 d9 r5 r6 r7⟩
    · have hx' : ¬ rl - 1 < 0 := by omega
      have e1 : DM.appendC ⟨cap, data, syn, true, rl, max rk 0, false⟩ s = 0 ∧ DM.appendD ⟨cap, data, syn, true, rl, max rk 0, false⟩ s = ⟨cap, data ++ s, syn, true, rl - 1, max rk 0, false⟩ := by simp [DM.appendC, DM.appendD, DM.strikes, DM.struck, hf, hx']
      have e2 : RM.appendC ⟨data, syn, cap, rk, true, false, rl⟩ s = 0 ∧ RM.appendR ⟨data, syn, cap, rk, true, false, rl⟩ s = ⟨data ++ s, syn, cap, rk, true, false, rl - 1⟩ := by simp [RM.appendC, RM.appendR, RM.booms, RM.boomR, hf, hx]
      rw [e1.1, e1.2, e2.1, e2.2]
      exact ⟨rfl, rel_mk (fun _ _ => ⟨rfl, rfl⟩) d1 d2 (by omega) (by omega) (by omega) (by omega) (fun _ => by omega) d8 d9 (by omega) (by omega) r7⟩

theorem rel_sync {D : DM} {R : RM} (h : Rel D R) : R.syncC = D.syncC ∧ Rel D.syncD R.syncR := by
  rcases rel_split h with ⟨hc, hc'⟩ | ⟨cap, data, syn, armed, left, keep, rk, rl, rfl, rfl, ha, d1, d2, d3, d4, d5, d6, d7, d8, d9, r5, r6, r7⟩
  · simp only [DM.syncC, DM.syncD, RM.syncC, RM.syncR, hc, hc', if_true, true_and]
    exact h
  cases armed with
  | false =>
    have e1 : DM.syncC ⟨cap, data, syn, false, left, keep, false⟩ = 0 ∧ DM.syncD ⟨cap, data, syn, false, left, keep, false⟩ = ⟨cap, data, data.size, false, left, keep, false⟩ := by simp [DM.syncC, DM.syncD, DM.strikes, DM.struck]
    have e2 : RM.syncC ⟨data, syn, cap, rk, false, false, rl⟩ = 0 ∧ RM.syncR ⟨data, syn, cap, rk, false, false, rl⟩ = ⟨data, data.size, cap, rk, false, false, rl⟩ := by simp [RM.syncC, RM.syncR, RM.booms, RM.boomR]
    rw [e1.1, e1.2, e2.1, e2.2]
    exact ⟨rfl, rel_mk (fun _ h => by cases h) d1 d2 d3 (Nat.le_refl _) d5 d6 (fun h => by cases h) d8 d9 r5 r6 r7⟩
  | true =>
    obtain ⟨rfl, rfl⟩ := ha rfl
    have hl := d7 rfl
    by_cases hx : rl ≤ 0
    · have hx' : rl - 1 < 0 := by omega
      have e1 : DM.syncC ⟨cap, data, syn, true, rl, max rk 0, false⟩ = 28 ∧ DM.syncD ⟨cap, data, syn, true, rl, max rk 0, false⟩ = ⟨cap, data.extract 0 (syn + min (data.size - syn) (max rk 0).toNat), syn, false, rl - 1, max rk 0, true⟩ := by simp [DM.syncC, DM.syncD, DM.strikes, DM.struck, DM.crash, hx']
      have e2 : RM.syncC ⟨data, syn, cap, rk, true, false, rl⟩ = 28 ∧ RM.syncR ⟨data, syn, cap, rk, true, false, rl⟩ = ⟨data.extract 0 (syn + min (data.size - syn) (max rk 0).toNat), syn, cap, rk, false, true, rl⟩ := by simp [RM.syncC, RM.syncR, RM.booms, RM.boomR, hx]
      rw [e1.1, e1.2, e2.1, e2.2]
      have hz2 : (data.extract 0 (syn + min (data.size - syn) (max rk 0).toNat)).size = syn + min (data.size - syn) (max rk 0).toNat := by simp; omega
      exact ⟨rfl, rel_mk (fun h => by cases h) d1 d2 (by omega) (by omega) (by omega) (by omega) (fun h => by cases h) d8 d9 r5 r6 r7⟩
    · have hx' : ¬ rl - 1 < 0 := by omega
      have e1 : DM.syncC ⟨cap, data, syn, true, rl, max rk 0, false⟩ = 0 ∧ DM.syncD ⟨cap, data, syn, true, rl, max rk 0, false⟩ = ⟨cap, data, data.size, true, rl - 1, max rk 0, false⟩ := by simp [DM.syncC, DM.syncD, DM.strikes, DM.struck, hx']
      have e2 : RM.syncC ⟨data, syn, cap, rk, true, false, rl⟩ = 0 ∧ RM.syncR ⟨data, syn, cap, rk, true, false, rl⟩ = ⟨data, data.size, cap, rk, true, false, rl - 1⟩ := by simp [RM.syncC, RM.syncR, RM.booms, RM.boomR, hx]
      rw [e1.1, e1.2, e2.1, e2.2]
      exact ⟨rfl, rel_mk (fun _ _ => ⟨rfl, rfl⟩) d1 d2 d3 (Nat.le_refl _) (by omega) (by omega) (fun _ => by omega) d8 d9 (by omega) (by omega) r7⟩

theorem rel_trunc {D : DM} {R : RM} (h : Rel D R) (n : Int) : R.truncC n = D.truncC n ∧ Rel (D.truncD n) (R.truncR n) := by
  rcases rel_split h with ⟨hc, hc'⟩ | ⟨cap, data, syn, armed, left, keep, rk, rl, rfl, rfl, ha, d1, d2, d3, d4, d5, d6, d7, d8, d9, r5, r6, r7⟩
  · simp only [DM.truncC, DM.truncD, RM.truncC, RM.truncR, hc, hc', if_true, true_and]
    exact h
  by_cases hf : n < 0 ∨ (data.size : Int) < n
  · have e1 : DM.truncC ⟨cap, data, syn, armed, left, keep, false⟩ n = 1 ∧ DM.truncD ⟨cap, data, syn, armed, left, keep, false⟩ n = ⟨cap, data, syn, armed, left, keep, false⟩ := by simp [DM.truncC, DM.truncD, hf]
    have e2 : RM.truncC ⟨data, syn, cap, rk, armed, false, rl⟩ n = 1 ∧ RM.truncR ⟨data, syn, cap, rk, armed, false, rl⟩ n = ⟨data, syn, cap, rk, armed, false, rl⟩ := by simp [RM.truncC, RM.truncR, hf]
    rw [e1.1, e1.2, e2.1, e2.2]
    exact ⟨rfl, h⟩
  have hz : (data.extract 0 n.toNat).size = n.toNat := by simp; omega
  cases armed with
  | false =>
    have e1 : DM.truncC ⟨cap, data, syn, false, left, keep, false⟩ n = 0 ∧ DM.truncD ⟨cap, data, syn, false, left, keep, false⟩ n = ⟨cap, data.extract 0 n.toNat, min syn n.toNat, false, left, keep, false⟩ := by simp [DM.truncC, DM.truncD, DM.strikes, DM.struck, hf]
    have e2 : RM.truncC ⟨data, syn, cap, rk, false, false, rl⟩ n = 0 ∧ RM.truncR ⟨data, syn, cap, rk, false, false, rl⟩ n = ⟨data.extract 0 n.toNat, min syn n.toNat, cap, rk, false, false, rl⟩ := by simp [RM.truncC, RM.truncR, RM.booms, RM.boomR, hf]
    rw [e1.1, e1.2, e2.1, e2.2]
    exact ⟨rfl, rel_mk (fun _ h => by cases h) d1 d2 (by omega) (by omega) d5 d6 (fun h => by cases h) d8 d9 r5 r6 r7⟩
  | true =>
    obtain ⟨rfl, rfl⟩ := ha rfl
    have hl := d7 rfl
    by_cases hx : rl ≤ 0
    · have hx' : rl - 1 < 0 := by omega
      have e1 : DM.truncC ⟨cap, data, syn, true, rl, max rk 0, false⟩ n = 28 ∧ DM.truncD ⟨cap, data, syn, true, rl, max rk 0, false⟩ n = ⟨cap, data.extract 0 (syn + min (data.size - syn) (max rk 0).toNat), syn, false, rl - 1, max rk 0, true⟩ := by simp [DM.truncC, DM.truncD, DM.strikes, DM.struck, DM.crash, hx', hf]
      have e2 : RM.truncC ⟨data, syn, cap, rk, true, false, rl⟩ n = 28 ∧ RM.truncR ⟨data, syn, cap, rk, true, false, rl⟩ n = ⟨data.extract 0 (syn + min (data.size - syn) (max rk 0).toNat), syn, cap, rk, false, true, rl⟩ := by simp [RM.truncC, RM.truncR, RM.booms, RM.boomR, hx, hf]
      rw [e1.1, e1.2, e2.1, e2.2]
      have hz2 : (data.extract 0 (syn + min (data.size - syn) (max rk 0).toNat)).size = syn + min (data.size - syn) (max rk 0).toNat := by simp; omega
      exact ⟨rfl, rel_mk (fun h => by cases h) d1 d2 (by omega) (by omega) (by omega) (by omega) (fun h => by cases h) d8 d9 r5 r6 r7⟩
    · have hx' : ¬ rl - 1 < 0 := by omega
      have e1 : DM.truncC ⟨cap, data, syn, true, rl, max rk 0, false⟩ n = 0 ∧ DM.truncD ⟨cap, data, syn, true, rl, max rk 0, false⟩ n = ⟨cap, data.extract 0 n.toNat, min syn n.toNat, true, rl - 1, max rk 0, false⟩ := by simp [DM.truncC, DM.truncD, DM.strikes, DM.struck, hx', hf]
      have e2 : RM.truncC ⟨data, syn, cap, rk, true, false, rl⟩ n = 0 ∧ RM.truncR ⟨data, syn, cap, rk, true, false, rl⟩ n = ⟨data.extract 0 n.toNat, min syn n.toNat, cap, rk, true, false, rl - 1⟩ := by simp [RM.truncC, RM.truncR, RM.booms, RM.boomR, hx, hf]
      rw [e1.1, e1.2, e2.1, e2.2]
      exact ⟨rfl, rel_mk (fun _ _ => ⟨rfl, rfl⟩) d1 d2 (by omega) (by omega) (by omega) (by omega) (fun _ => by omega) d8 d9 (by omega) (by omega) r7⟩

theorem rel_arm {D : DM} {R : RM} (h : Rel D R) (n k : Int) (hn : n ≤ 9223372036854775807) (hk : k ≤ 9223372036854775807) : Rel (D.armD n k) (R.armR n k) := by
  rcases rel_split h with ⟨hc, hc'⟩ | ⟨cap, data, syn, armed, left, keep, rk, rl, rfl, rfl, ha, d1, d2, d3, d4, d5, d6, d7, d8, d9, r5, r6, r7⟩
  · have e : D.armD n k = D := by simp [DM.armD, hc]
    rw [e]
    obtain ⟨r1, r2, r3, r4, r5, r6, r7⟩ := h.okR
    exact ⟨h.data, h.syn, h.cap, h.crashed, fun h => by simp [hc] at h, fun h => by simp [hc] at h, fun h => by simp [hc] at h, h.okD, ⟨r1, r2, r3, r4, by simp [RM.armR]; omega, by simp [RM.armR]; omega, hk⟩⟩
  · exact rel_mk (fun _ _ => ⟨rfl, rfl⟩) d1 d2 d3 d4 (by omega) (by omega) (fun _ => by omega) (by omega) (by omega) (by omega) (by omega) hk

theorem rel_restart {D : DM} {R : RM} (h : Rel D R) : Rel D.restartD R.restartR := by
  by_cases hc : D.crashed = true
  · obtain ⟨cap, data, syn, armed, left, keep, crashed⟩ := D
    obtain ⟨rd, rs, rc, rk, ra, rcr, rl⟩ := R
    obtain ⟨h1, h2, h3, h4, h5, h6, h7, ⟨d1, d2, d3, d4, d5, d6, d7, d8, d9⟩, ⟨r1, r2, r3, r4, r5, r6, r7⟩⟩ := h
    dsimp only at *
    subst h1 h2 h3 h4 hc
    exact rel_mk (fun _ h => by cases h) d1 d2 d3 (Nat.le_refl _) d5 d6 (fun h => by cases h) d8 d9 r5 r6 r7
  · rw [Bool.not_eq_true] at hc
    have hc' := h.crashed
    rw [hc] at hc'
    simp only [DM.restartD, RM.restartR, hc, hc', Bool.false_eq_true, if_false]
    exact h

theorem rel_new (c : Int) : Rel ⟨min (max c 0) 16777216, ByteArray.empty, 0, false, 0, 0, false⟩ ⟨ByteArray.empty, 0, min (max c 0) 16777216, 0, false, false, 0⟩ :=
  rel_mk (fun _ h => by cases h) (by omega) (by omega) (by simp; omega) (by simp) (by omega) (by omega) (fun h => by cases h) (by omega) (by omega) (by omega) (by omega) (by omega)
end Go.Proofs.Ytmflngpgmmgohaa
