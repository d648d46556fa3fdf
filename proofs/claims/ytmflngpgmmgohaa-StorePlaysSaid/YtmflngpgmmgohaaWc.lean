/-
  Plain: what is read is what was written; the keys of a log; the reference's store steps as the store.
-/
import Derived.Test.YtmflngpgmmgohaaVb
import Derived.Test.YtmflngpgmmgohaaWa
import Derived.Test.YtmflngpgmmgohaaRel
namespace Go.Proofs.Ytmflngpgmmgohaa
open Go.RowKit Go.Sort Go.Maps Go.Names

theorem drop_at {s : ByteArray} {i : Nat} (h : i < s.size) : s.data.toList.drop i = s[i] :: s.data.toList.drop (i + 1) := by
  have hl : i < s.data.toList.length := by simpa using h
  rw [List.drop_eq_getElem_cons hl]
  rfl
theorem u8_back (b : UInt8) : UInt8.ofNat b.toNat = b := by simp
theorem lenGo_inv {s : ByteArray} : ∀ (f i z n k : Nat), lenGo s f i z = some (n, k) →
    ∃ m, s.data.toList.drop i = leb m ++ s.data.toList.drop k ∧ k = i + (leb m).length ∧ n = (z + m * 2 ^ (7 * i)) / 2 ∧ (z + m * 2 ^ (7 * i)) % 2 = 0 ∧ (i = 0 ∨ 0 < m) ∧ k ≤ s.size
  | 0, _, _, _, _, h => by simp [lenGo] at h
  | f + 1, i, z, n, k, h => by
    unfold lenGo at h
    split at h
    · rename_i hi
      split at h
      · rename_i hb
        split at h
        · rename_i hc
          simp only [Option.some.injEq, Prod.mk.injEq] at h
          obtain ⟨rfl, rfl⟩ := h
          rw [Nat.mod_eq_of_lt hb] at hc ⊢
          refine ⟨s[i].toNat, ?_, ?_, rfl, hc.1, hc.2, by omega⟩
          · rw [leb_lt hb, u8_back, drop_at hi]; rfl
          · rw [leb_lt hb]; rfl
        · cases h
      · rename_i hb
        obtain ⟨m, h1, h2, h3, h4, h5, h6⟩ := lenGo_inv f (i + 1) _ n k h
        have hm : 0 < m := by omega
        have hlt : s[i].toNat < 256 := s[i].toNat_lt
        have hr : s[i].toNat % 128 = s[i].toNat - 128 := by omega
        have hp : z + s[i].toNat % 128 * 2 ^ (7 * i) + m * 2 ^ (7 * (i + 1)) = z + (s[i].toNat % 128 + 128 * m) * 2 ^ (7 * i) := by
          rw [show 7 * (i + 1) = 7 * i + 7 by omega, Nat.pow_add, show (2 : Nat) ^ 7 = 128 by decide, Nat.add_mul, Nat.mul_comm 128 m, Nat.mul_assoc, Nat.mul_comm 128, Nat.add_assoc]
        rw [hp] at h3 h4
        have hge : ¬ (s[i].toNat % 128 + 128 * m) < 128 := by omega
        refine ⟨s[i].toNat % 128 + 128 * m, ?_, ?_, h3, h4, .inr (by omega), h6⟩
        · rw [leb_ge hge, show (s[i].toNat % 128 + 128 * m) % 128 + 128 = s[i].toNat by omega, u8_back, show (s[i].toNat % 128 + 128 * m) / 128 = m by omega, drop_at hi, h1]
          rfl
        · rw [leb_ge hge, show (s[i].toNat % 128 + 128 * m) / 128 = m by omega, h2]; simp; omega
    · cases h
theorem lenV_inv {s : ByteArray} {n k : Nat} (h : lenV s = some (n, k)) : s.data.toList = leb (n * 2) ++ s.data.toList.drop k ∧ k ≤ s.size := by
  obtain ⟨m, h1, h2, h3, h4, _, h6⟩ := lenGo_inv 8 0 0 n k h
  simp only [Nat.mul_zero, Nat.pow_zero, Nat.mul_one, Nat.zero_add] at h3 h4
  have e : n * 2 = m := by omega
  rw [e]
  exact ⟨by simpa using h1, h6⟩
theorem cutV_inv {s a b : ByteArray} (h : cutV s = some (a, b)) : s = textB a ++ b := by
  unfold cutV at h
  split at h
  · rename_i n k hl
    obtain ⟨h1, h2⟩ := lenV_inv hl
    split at h
    · cases h
    · rename_i hn
      simp only [Option.some.injEq, Prod.mk.injEq] at h
      obtain ⟨ha, hb⟩ := h
      have hz : (s.extract k s.size).data.toList = s.data.toList.drop k := by
        have e0 : s.data.toList.length = s.size := by simp
        simp only [ByteArray.data_extract, Array.toList_extract, List.extract_eq_take_drop]
        rw [List.take_of_length_le (by simp)]
      generalize s.extract k s.size = r at *
      have has : a.size = n := by rw [← ha]; simp; omega
      have hab : a ++ b = r := by
        rw [← ha, ← hb]
        apply ByteArray.ext
        simp
      apply ByteArray.ext
      apply Array.toList_inj.1
      unfold textB
      rw [ByteArray.append_assoc, hab, has]
      simp only [ByteArray.data_append, Array.toList_append, hz]
      exact h1
  · cases h
theorem recV_inv {s : ByteArray} {r : Rec} {rest : ByteArray} (h : recV s = some (r, rest)) : s = frameB r.1 r.2 ++ rest := by
  unfold recV at h
  split at h
  · cases h
  · rename_i body rest' h1
    have e1 := cutV_inv h1
    split at h
    · rename_i ho
      split at h
      · cases h
      · rename_i key o h2
        split at h
        · cases h
        · rename_i data o2 h3
          split at h
          · rename_i h4
            simp only [Option.some.injEq, Prod.mk.injEq] at h
            obtain ⟨rfl, rfl⟩ := h
            have e2 := cutV_inv h2
            have e3 := cutV_inv h3
            rw [h4, append_nil] at e3
            rw [e3] at e2
            have e4 : body = sealB (openV body).1 := by
              unfold openV at ho ⊢
              split
              · rename_i h5; rw [if_pos h5] at ho; cases ho
              · rename_i h5
                rw [if_neg h5] at ho
                split
                · rename_i h6; exact h6.symm
                · rename_i h6; rw [if_neg h6] at ho; cases ho
            rw [e2] at e4
            rw [e1, e4]
            rfl
          · cases h
    · cases h
theorem readV_inv (s : ByteArray) : framesB (readV s).1 ++ (readV s).2 = s := by
  have key : ∀ (f : Nat) (s : ByteArray), framesB (readGo f s).1 ++ (readGo f s).2 = s := by
    intro f
    induction f with
    | zero => intro s; simp [readGo, framesB, nil_append]
    | succ f ih =>
      intro s
      cases h : recV s with
      | none => simp only [readGo, h]; exact nil_append s
      | some p =>
        obtain ⟨r, rest⟩ := p
        simp only [readGo, h, framesB]
        rw [ByteArray.append_assoc, ih rest]
        exact (recV_inv h).symm
  exact key _ s
theorem openN_frames (s : ByteArray) : openN s = (framesB (readV s).1).size := by
  have := congrArg ByteArray.size (readV_inv s)
  rw [ByteArray.size_append] at this
  unfold openN
  omega

/-! ### Keys of a log -/
def KL (L : List Rec) : List Nm := nrm ((L.filter fun r => decide (¬ cur L r.1 = ⟨#[]⟩)).map fun r => r.1.data.toList)
theorem Tid.lts {D : MD} (h : Tid D) : Asc (KS D) := by
  have h1 := h.asc
  have h2 := h.nodup
  exact (h1.and h2).imp fun ⟨a, b⟩ => lt_of_le_ne a b
theorem KL_KS {D : MD} {L : List Rec} (h : Cur D L) (hT : Tid D) : KS D = KL L := by
  refine nrm_of hT.lts fun x => ?_
  rw [hT.mem]
  have h2 := h.has ⟨x.toArray⟩
  rw [show sk ⟨x.toArray⟩ = .string x by simp [sk]] at h2
  rw [h2, decide_eq_true_eq, List.mem_map]
  constructor
  · intro hc
    exact ⟨_, List.mem_filter.2 ⟨cur_mem hc, by simpa using hc⟩, by simp⟩
  · rintro ⟨r, hr, rfl⟩
    have := (List.mem_filter.1 hr).2
    simpa using this
theorem foldl_rec {D : MD} {x : ByteArray} : ∀ (K : List Nm) (d : ByteArray), (K.map (recOf D)).foldl (fun d r => if r.1 = x then r.2 else d) d = if x.data.toList ∈ K then dataOf D x else d := by
  intro K
  induction K with
  | nil => intro d; simp
  | cons k K ih =>
    intro d
    rw [List.map_cons, List.foldl_cons, ih]
    by_cases hk : x.data.toList ∈ K
    · rw [if_pos hk, if_pos (by simp [hk])]
    · rw [if_neg hk]
      by_cases he : x.data.toList = k
      · have e : (recOf D k).1 = x := by rw [← he]; rfl
        rw [if_pos e, if_pos (by simp [he])]
        unfold recOf at e ⊢
        dsimp only at e ⊢
        rw [e]
      · have e : ¬ (recOf D k).1 = x := fun e => he (by rw [← e]; simp [recOf])
        rw [if_neg e, if_neg (by simp [he, hk])]
/-- The log that Compact writes has the same current records. -/
theorem Cur.comp {D : MD} {L : List Rec} (h : Cur D L) (hT : Tid D) : Cur D (comp D) := by
  have hc : ∀ x, cur (Ytmflngpgmmgohaa.comp D) x = cur L x := by
    intro x
    show (List.map (recOf D) (KS D)).foldl _ _ = _
    rw [foldl_rec]
    have h2 := h.has x
    by_cases hx : x.data.toList ∈ KS D
    · rw [if_pos hx, h.data]
    · rw [if_neg hx]
      have h3 : ¬ Maps.has D (sk x) = true := fun h3 => hx ((hT.mem _).2 h3)
      rw [h2] at h3
      have h4 : cur L x = ⟨#[]⟩ := Classical.byContradiction fun hne => h3 (by simpa using hne)
      exact h4.symm
  exact ⟨h.isMap, fun k => by rw [hc]; exact h.has k, fun k => by rw [hc]; exact h.get k⟩
theorem comp_small {D : MD} {L : List Rec} {a b : Nat} (h : Cur D L) (hT : Tid D) (hs : ∀ r ∈ L, r.1.size ≤ a ∧ r.2.size ≤ b) : ∀ r ∈ comp D, r.1.size ≤ a ∧ r.2.size ≤ b := by
  intro r hr
  obtain ⟨k, hk, rfl⟩ := List.mem_map.1 hr
  have h1 := (hT.mem k).1 hk
  have h2 := h.has ⟨k.toArray⟩
  rw [show sk ⟨k.toArray⟩ = .string k by simp [sk]] at h2
  rw [h1] at h2
  have h3 : ¬ cur L ⟨k.toArray⟩ = ⟨#[]⟩ := by simpa using h2
  have := hs _ (cur_mem h3)
  unfold recOf
  rw [h.data]
  exact this

/-! ### The reference's store -/
def rputC (R : RM) (fr : ByteArray) : Int := if R.appendC fr = 0 then (R.appendR fr).syncC else R.appendC fr
def rputR (R : RM) (fr : ByteArray) : RM := if R.appendC fr = 0 then (R.appendR fr).syncR else R.appendR fr
theorem rel_put {D : DM} {R : RM} (h : Rel D R) (k d : ByteArray) : rputC R (frameB k d) = putC D k d ∧ Rel (putDk D k d) (rputR R (frameB k d)) := by
  obtain ⟨h1, h2⟩ := rel_append h (frameB k d)
  obtain ⟨h3, h4⟩ := rel_sync h2
  unfold rputC rputR putC putDk
  rw [h1, h3]
  refine ⟨rfl, ?_⟩
  split
  · exact h4
  · exact h2
def rcompC (R : RM) (T : ByteArray) : Int := if R.truncC 0 = 0 then (if (R.truncR 0).appendC T = 0 then ((R.truncR 0).appendR T).syncC else (R.truncR 0).appendC T) else R.truncC 0
def rcompR (R : RM) (T : ByteArray) : RM := if R.truncC 0 = 0 then (if (R.truncR 0).appendC T = 0 then ((R.truncR 0).appendR T).syncR else (R.truncR 0).appendR T) else R.truncR 0
theorem rel_comp {D : DM} {R : RM} (h : Rel D R) (T : ByteArray) : rcompC R T = compC D T ∧ Rel (compDk D T) (rcompR R T) := by
  obtain ⟨h0, h01⟩ := rel_trunc h 0
  obtain ⟨h1, h2⟩ := rel_append h01 T
  obtain ⟨h3, h4⟩ := rel_sync h2
  unfold rcompC rcompR compC compDk
  rw [h0, h1, h3]
  refine ⟨rfl, ?_⟩
  split
  · split
    · exact h4
    · exact h2
  · exact h01
def ropenC (R : RM) : Int := if (readV R.data).2.size = 0 then 0 else R.truncC (openN R.data)
def ropenR (R : RM) : RM := if (readV R.data).2.size = 0 then R else R.truncR (openN R.data)
theorem rel_open {D : DM} {R : RM} (h : Rel D R) : ropenC R = sopenC D ∧ Rel (sopenDk D) (ropenR R) := by
  obtain ⟨h1, h2⟩ := rel_trunc h (openN R.data)
  unfold ropenC ropenR sopenC sopenDk
  rw [← h.data, h1]
  refine ⟨rfl, ?_⟩
  split
  · exact h
  · exact h2
end Go.Proofs.Ytmflngpgmmgohaa
