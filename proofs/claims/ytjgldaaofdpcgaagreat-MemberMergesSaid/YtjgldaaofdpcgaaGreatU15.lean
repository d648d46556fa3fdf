/- Walks and plain facts for the laws of membership, for all values and types that the heap holds (texts K8). -/
import Derived.Test.YtjgldaaofdpcgaaGreatU14
set_option linter.unusedVariables false
set_option linter.unusedSimpArgs false
namespace Go.Proofs.YtjgldaaofdpcgaaGreat
open Go.RowKit Go.Ident
set_option maxRecDepth 100000
theorem text_size (s : ByteArray) : (s.toList != []) = !decide (s.size = 0) := by
  have h : s.toList = s.data.toList := ByteArray.toList_eq s
  rw [h]
  have : s.size = s.data.toList.length := by show s.data.size = _; simp
  rw [this]
  cases s.data.toList <;> simp
theorem text_isEmpty (s : ByteArray) : s.toList.isEmpty = decide (s.size = 0) := by
  have h := text_size s
  generalize decide (s.size = 0) = d at *
  cases hl : s.toList with
  | nil => rw [hl] at h; cases d <;> simp_all
  | cons x r => rw [hl] at h; cases d <;> simp_all
set_option maxHeartbeats 64000000 in
theorem node9_any (a : VV) (h9 : a.kind = 1 ∨ a.kind = 2 ∨ a.kind = 3 ∨ a.kind = 4 ∨ a.kind = 5 ∨ a.kind = 6 ∨ a.kind = 7 ∨ a.kind = 8 ∨ a.kind = 9) (w : World) (u : Value) (hu : VW w u a) : Calls Tryz.prog 84 #[u] w (ER (nodeV a) w) := by
  obtain ⟨b0, b1, b2, b3, b4, S, hB⟩ : ∃ b0 b1 b2 b3 b4 S : Bool, (a.kind = 1 ∧ b0 = true ∧ b1 = false ∧ b2 = false ∧ b3 = false ∧ b4 = false ∧ S = true) ∨ (a.kind = 2 ∧ b0 = false ∧ b1 = true ∧ b2 = false ∧ b3 = false ∧ b4 = false ∧ S = decide (a.text.size ≤ 64)) ∨ (a.kind = 3 ∧ b0 = false ∧ b1 = true ∧ b2 = false ∧ b3 = false ∧ b4 = false ∧ S = isAtm a.text.data.toList) ∨ (a.kind = 4 ∧ b0 = true ∧ b1 = false ∧ b2 = false ∧ b3 = false ∧ b4 = false ∧ S = decide (0 ≤ a.num)) ∨ (a.kind = 5 ∧ b0 = false ∧ b1 = false ∧ b2 = false ∧ b3 = false ∧ b4 = false ∧ S = true) ∨ (a.kind = 6 ∧ b0 = false ∧ b1 = false ∧ b2 = true ∧ b3 = false ∧ b4 = false ∧ S = decide (a.kids.length ≤ 4)) ∨ (a.kind = 7 ∧ b0 = false ∧ b1 = false ∧ b2 = true ∧ b3 = false ∧ b4 = false ∧ S = (decide (a.kids.length = 2) && tailOk a.kids)) ∨ (a.kind = 8 ∧ b0 = false ∧ b1 = false ∧ b2 = true ∧ b3 = true ∧ b4 = false ∧ S = mapOk a) ∨ (a.kind = 9 ∧ b0 = true ∧ b1 = false ∧ b2 = false ∧ b3 = false ∧ b4 = true ∧ S = funOk a) := by
    rcases h9 with h | h | h | h | h | h | h | h | h
    · exact ⟨true, false, false, false, false, true, by simp [h]⟩
    · exact ⟨false, true, false, false, false, decide (a.text.size ≤ 64), by simp [h]⟩
    · exact ⟨false, true, false, false, false, isAtm a.text.data.toList, by simp [h]⟩
    · exact ⟨true, false, false, false, false, decide (0 ≤ a.num), by simp [h]⟩
    · exact ⟨false, false, false, false, false, true, by simp [h]⟩
    · exact ⟨false, false, true, false, false, decide (a.kids.length ≤ 4), by simp [h]⟩
    · exact ⟨false, false, true, false, false, (decide (a.kids.length = 2) && tailOk a.kids), by simp [h]⟩
    · exact ⟨false, false, true, true, false, mapOk a, by simp [h]⟩
    · exact ⟨true, false, false, false, true, funOk a, by simp [h]⟩
  have Hn := Lib.hid (show nodeV a = (labOk a.labels && (b0 || decide (a.num = 0)) && (b1 || decide (a.text.size = 0)) && (b2 || a.kids.isEmpty) && (b3 || a.keys.isEmpty) && (b4 || a.ents.isEmpty) && S) by
    rcases hB with ⟨hk, rfl, rfl, rfl, rfl, rfl, hS⟩ | ⟨hk, rfl, rfl, rfl, rfl, rfl, hS⟩ | ⟨hk, rfl, rfl, rfl, rfl, rfl, hS⟩ | ⟨hk, rfl, rfl, rfl, rfl, rfl, hS⟩ | ⟨hk, rfl, rfl, rfl, rfl, rfl, hS⟩ | ⟨hk, rfl, rfl, rfl, rfl, rfl, hS⟩ | ⟨hk, rfl, rfl, rfl, rfl, rfl, hS⟩ | ⟨hk, rfl, rfl, rfl, rfl, rfl, hS⟩ | ⟨hk, rfl, rfl, rfl, rfl, rfl, hS⟩
    all_goals
      subst hS
      unfold nodeV labOk
      try unfold mapOk
      try unfold funOk
      simp [hk, usesNum, usesText, usesKids]
      try ac_rfl)
  have hU := fun (w2 : World) => show Calls Tryz.prog 104 #[.int .i64 a.kind] w2 fun e w' => e = .returned (.tuple #[.agg #[.bool b0, .bool b1, .bool b2, .bool b3, .bool b4], .bool true]) ∧ Below w2.heap.size w2 w' from (uses_any a.kind w2).mono fun _ _ h => ⟨by rcases hB with ⟨hk, rfl, rfl, rfl, rfl, rfl, hS⟩ | ⟨hk, rfl, rfl, rfl, rfl, rfl, hS⟩ | ⟨hk, rfl, rfl, rfl, rfl, rfl, hS⟩ | ⟨hk, rfl, rfl, rfl, rfl, rfl, hS⟩ | ⟨hk, rfl, rfl, rfl, rfl, rfl, hS⟩ | ⟨hk, rfl, rfl, rfl, rfl, rfl, hS⟩ | ⟨hk, rfl, rfl, rfl, rfl, rfl, hS⟩ | ⟨hk, rfl, rfl, rfl, rfl, rfl, hS⟩ | ⟨hk, rfl, rfl, rfl, rfl, rfl, hS⟩ <;> simpa [usesNum, usesText, usesKids, hk] using h.1, h.2⟩
  have HB := Lib.hid hB
  have Hu := Lib.hid hu
  obtain ⟨_, q1, q2, q3, q4, q5, q6, q7, q8, rfl, -, hkids, -, -, hl⟩ := hu.ex
  have hszk : a.kids.length ≤ 9223372036854775807 := by obtain ⟨_, _, _, _, h⟩ := hkids; exact h.big
  have HK := Lib.hid hkids; have HL := Lib.hid hl; have HU := Lib.hid hU
  clear hu hkids hl h9 hB hU
  go_enter Tryz.func84, Tryz.ntmps84
  go_upto_region 1 with fail
  have hA := heap_alloc_new w (.cells #[.int .i64 a.kind, .int .i64 a.num, .string a.text, .slice q1 a.kids.length q2, .slice q3 a.keys.length q4, .slice q5 a.ents.length q6, .slice q7 a.labels.length q8] 28)
  have hb : Below w.heap.size w (w.alloc (.cells #[.int .i64 a.kind, .int .i64 a.num, .string a.text, .slice q1 a.kids.length q2, .slice q3 a.keys.length q4, .slice q5 a.ents.length q6, .slice q7 a.labels.length q8] 28)) := (Below.refl _ _).alloc (Nat.le_refl _) _
  generalize w.alloc (.cells #[.int .i64 a.kind, .int .i64 a.num, .string a.text, .slice q1 a.kids.length q2, .slice q3 a.keys.length q4, .slice q5 a.ents.length q6, .slice q7 a.labels.length q8] 28) = w2 at *
  have hlA := heap_lt hA
  have HA := Lib.hid hA; have Hb := Lib.hid hb
  obtain ⟨⟨f0, f1, f2, f3⟩, f4, f5, f6⟩ := cells7 hA
  clear hA hb
  have Hus := Lib.hid (HU.out w2)
  go_upto_region 2 with (go_at_call 104; refine Hus.out.mono ?_; rintro e w3 ⟨rfl, q⟩; have Hb3 := Lib.hid q; clear q)
  have hn4 := heap_alloc_new w3 (.cells #[.bool b0, .bool b1, .bool b2, .bool b3, .bool b4] 120)
  have ho : Below w3.heap.size w3 (w3.alloc (.cells #[.bool b0, .bool b1, .bool b2, .bool b3, .bool b4] 120)) := (Below.refl _ _).alloc (Nat.le_refl _) _
  generalize w3.alloc (.cells #[.bool b0, .bool b1, .bool b2, .bool b3, .bool b4] 120) = w4 at *
  have Hb4 := Lib.hid (Hb3.out.step ho)
  have Hbw4 := Lib.hid (Hb.out.step Hb4.out)
  clear f0 f1 f2 f3 f4 f5 f6 ho
  obtain ⟨⟨f0, f1, f2, f3⟩, f4, f5, f6⟩ := cells7 ((Hb4.out.block _ hlA).trans HA.out)
  have hl4 := heap_lt hn4
  have Hn4 := Lib.hid hn4
  clear hn4
  have Hlab := Lib.hid (validLabels_any a.labels w4 _ (HL.out.below Hbw4.out))
  cases hlab : labOk a.labels with
  | false =>
    have Hr := Lib.hid (show nodeV a = false by rw [Hn.out, hlab]; simp)
    rw [hlab] at Hlab
    clear hlab
    go_wp2_with (go_at_call 105; refine Hlab.out.mono ?_; rintro e w5 ⟨rfl, q⟩; have Hb5 := Lib.hid (Hbw4.out.step q); clear q)
    go_ret
    rw [Hr.out]
    exact ⟨rfl, Hb5.out⟩
  | true =>
    rw [hlab] at Hlab Hn
    clear hlab
    go_upto_region 4 with (go_at_call 105; refine Hlab.out.mono ?_; rintro e w5 ⟨rfl, q⟩; have Hb5 := Lib.hid (Hbw4.out.step q); have Hq5 := Lib.hid q; clear q)
    clear f0 f1 f2 f3 f4 f5 f6
    have HA5 := Lib.hid ((Hq5.out.block _ (Nat.lt_of_lt_of_le hlA Hb4.out.size)).trans ((Hb4.out.block _ hlA).trans HA.out))
    obtain ⟨⟨f0, f1, f2, f3⟩, f4, f5, f6⟩ := cells7 HA5.out
    obtain ⟨g0, g1, g2, g3, g4⟩ : w5.cell? ⟨w3.heap.size, 0, none⟩ = some (.bool b0) ∧ w5.cell? ⟨w3.heap.size, 1, none⟩ = some (.bool b1) ∧ w5.cell? ⟨w3.heap.size, 2, none⟩ = some (.bool b2) ∧ w5.cell? ⟨w3.heap.size, 3, none⟩ = some (.bool b3) ∧ w5.cell? ⟨w3.heap.size, 4, none⟩ = some (.bool b4) := by
      have h := (Hq5.out.block _ hl4).trans Hn4.out
      simp [World.cell?, h]
    have Hu5 := Lib.hid (Hu.out.below Hb5.out)
    rcases HB.out with ⟨hk, rfl, rfl, rfl, rfl, rfl, hS⟩ | ⟨hk, rfl, rfl, rfl, rfl, rfl, hS⟩ | ⟨hk, rfl, rfl, rfl, rfl, rfl, hS⟩ | ⟨hk, rfl, rfl, rfl, rfl, rfl, hS⟩ | ⟨hk, rfl, rfl, rfl, rfl, rfl, hS⟩ | ⟨hk, rfl, rfl, rfl, rfl, rfl, hS⟩ | ⟨hk, rfl, rfl, rfl, rfl, rfl, hS⟩ | ⟨hk, rfl, rfl, rfl, rfl, rfl, hS⟩ | ⟨hk, rfl, rfl, rfl, rfl, rfl, hS⟩
    all_goals rw [hk] at f0 Hu5
    all_goals have HS := Lib.hid hS
    all_goals clear hk hS
    all_goals (first
      | (have q : w5.cell? ⟨w3.heap.size, 0, none⟩ = some (.bool false) := g0
         clear q
         by_cases z : a.num = 0
         rotate_left
         · have e := (decide_eq_false z)
           have Hr := Lib.hid (show nodeV a = false by rw [Hn.out, e]; simp)
           have d0 : (a.num != 0) = true := by simp [z]
           clear z e
           go_wp2
           go_ret
           rw [Hr.out]
           exact ⟨rfl, Hb5.out⟩
         have e := (decide_eq_true z)
         have d0 : (a.num != 0) = false := by simp [z]
         rw [e] at Hn
         clear z e)
      | skip)
    all_goals (first
      | (have q : w5.cell? ⟨w3.heap.size, 1, none⟩ = some (.bool false) := g1
         clear q
         by_cases z : a.text.size = 0
         rotate_left
         · have e := (decide_eq_false z)
           have Hr := Lib.hid (show nodeV a = false by rw [Hn.out, e]; simp)
           have d1 : a.text.toList.isEmpty = false := (text_isEmpty a.text).trans e
           clear z e
           go_wp2
           go_ret
           rw [Hr.out]
           exact ⟨rfl, Hb5.out⟩
         have e := (decide_eq_true z)
         have d1 : a.text.toList.isEmpty = true := (text_isEmpty a.text).trans e
         rw [e] at Hn
         clear z e)
      | skip)
    all_goals (first
      | (have q : w5.cell? ⟨w3.heap.size, 2, none⟩ = some (.bool false) := g2
         clear q
         by_cases z : a.kids.length = 0
         rotate_left
         · have e := (show a.kids.isEmpty = false by rw [Bool.eq_false_iff]; intro h; exact z (by simpa using h))
           have Hr := Lib.hid (show nodeV a = false by rw [Hn.out, e]; simp)
           have d2 : decide (0 < a.kids.length) = true := by simp; omega
           clear z e
           go_wp2
           go_ret
           rw [Hr.out]
           exact ⟨rfl, Hb5.out⟩
         have e := (show a.kids.isEmpty = true by simpa using z)
         have d2 : decide (0 < a.kids.length) = false := by simp [z]
         rw [e] at Hn
         clear z e)
      | skip)
    all_goals (first
      | (have q : w5.cell? ⟨w3.heap.size, 3, none⟩ = some (.bool false) := g3
         clear q
         by_cases z : a.keys.length = 0
         rotate_left
         · have e := (show a.keys.isEmpty = false by rw [Bool.eq_false_iff]; intro h; exact z (by simpa using h))
           have Hr := Lib.hid (show nodeV a = false by rw [Hn.out, e]; simp)
           have d3 : decide (0 < a.keys.length) = true := by simp; omega
           clear z e
           go_wp2
           go_ret
           rw [Hr.out]
           exact ⟨rfl, Hb5.out⟩
         have e := (show a.keys.isEmpty = true by simpa using z)
         have d3 : decide (0 < a.keys.length) = false := by simp [z]
         rw [e] at Hn
         clear z e)
      | skip)
    all_goals (first
      | (have q : w5.cell? ⟨w3.heap.size, 4, none⟩ = some (.bool false) := g4
         clear q
         by_cases z : a.ents.length = 0
         rotate_left
         · have e := (show a.ents.isEmpty = false by rw [Bool.eq_false_iff]; intro h; exact z (by simpa using h))
           have Hr := Lib.hid (show nodeV a = false by rw [Hn.out, e]; simp)
           have d4 : decide (0 < a.ents.length) = true := by simp; omega
           clear z e
           go_wp2
           go_ret
           rw [Hr.out]
           exact ⟨rfl, Hb5.out⟩
         have e := (show a.ents.isEmpty = true by simpa using z)
         have d4 : decide (0 < a.ents.length) = false := by simp [z]
         rw [e] at Hn
         clear z e)
      | skip)
    all_goals have Hr := Lib.hid (show nodeV a = S by rw [Hn.out]; simp)
    all_goals obtain rfl := HS.out
    · go_wp2
      go_ret
      rw [Hr.out]
      exact ⟨rfl, Hb5.out⟩
    · by_cases hs : a.text.size ≤ 64
      · have d9 : decide ((a.text.size : Int) ≤ 64) = true := by simp; omega
        have d9' : decide (a.text.size ≤ 64) = true := by simp [hs]
        rw [d9'] at Hr
        clear hs
        go_wp2
        go_ret
        rw [Hr.out]
        exact ⟨rfl, Hb5.out⟩
      · have d9 : decide ((a.text.size : Int) ≤ 64) = false := by simp; omega
        have d9' : decide (a.text.size ≤ 64) = false := by simp [hs]
        rw [d9'] at Hr
        clear hs
        go_wp2
        go_ret
        rw [Hr.out]
        exact ⟨rfl, Hb5.out⟩
    · have Hat := Lib.hid (isAtom_any a.text w5)
      generalize isAtm a.text.data.toList = c at *
      go_wp2_with (go_at_call 86; refine Hat.out.mono ?_; rintro e w5 ⟨rfl, rfl⟩)
      go_ret
      rw [Hr.out]
      exact ⟨rfl, Hb5.out⟩
    · go_wp2
      go_ret
      rw [Hr.out]
      exact ⟨rfl, Hb5.out⟩
    · go_wp2
      go_ret
      rw [Hr.out]
      exact ⟨rfl, Hb5.out⟩
    · by_cases hs : a.kids.length ≤ 4
      · have d9 : decide ((a.kids.length : Int) ≤ 4) = true := by simp; omega
        have d9' : decide (a.kids.length ≤ 4) = true := by simp [hs]
        rw [d9'] at Hr
        clear hs
        go_wp2
        go_ret
        rw [Hr.out]
        exact ⟨rfl, Hb5.out⟩
      · have d9 : decide ((a.kids.length : Int) ≤ 4) = false := by simp; omega
        have d9' : decide (a.kids.length ≤ 4) = false := by simp [hs]
        rw [d9'] at Hr
        clear hs
        go_wp2
        go_ret
        rw [Hr.out]
        exact ⟨rfl, Hb5.out⟩
    · by_cases hs : a.kids.length = 2
      rotate_left
      · have d9 : ((a.kids.length : Int) == 2) = false := by simp; omega
        have d9' : (a.kids.length == 2) = false := by simp; omega
        have d9'' : decide (a.kids.length = 2) = false := by simp [hs]
        rw [d9'', Bool.false_and] at Hr
        clear hs
        go_wp2
        go_ret
        rw [Hr.out]
        exact ⟨rfl, Hb5.out⟩
      have h1 : 1 < a.kids.length := by omega
      have htail : tailOk a.kids = (decide (a.kids[1].kind = 5) || decide (a.kids[1].kind = 7)) := by unfold tailOk; rw [List.getElem?_eq_getElem h1]
      have d9'' : decide (a.kids.length = 2) = true := by simp [hs]
      rw [d9'', Bool.true_and, htail] at Hr
      obtain ⟨dk, p', c', e9, hrk⟩ := HK.out.below Hb5.out
      injection e9 with e91 _ e93
      subst e91 e93
      obtain ⟨ak, ok, cs, rfl, hab, -, hrg, hP⟩ := hrk.at h1
      obtain ⟨r1, r2, r3, r4, r5, r6, r7, r8, rfl⟩ := hP.seven
      have z0 := hrg 0 _ rfl
      rw [Nat.add_zero] at z0
      clear hrk hrg hP htail
      generalize a.kids[1] = y at *
      have d9 : ((a.kids.length : Int) == 2) = true := by simp [hs]
      have d9' : (a.kids.length == 2) = true := by simp [hs]
      have hlt1 : 1 < a.kids.length := h1
      clear hs
      by_cases h5 : y.kind = 5
      · have e5 : (y.kind == 5) = true := by simp [h5]
        have Hr2 := Lib.hid (show nodeV a = true by rw [Hr.out]; simp [h5])
        clear h5
        go_wp2
        go_ret
        rw [Hr2.out]
        exact ⟨rfl, Hb5.out⟩
      · have e5 : (y.kind == 5) = false := by simp [h5]
        have Hr2 := Lib.hid (show nodeV a = (y.kind == 7) by rw [Hr.out]; simp [h5]; rw [Bool.eq_iff_iff]; simp)
        clear h5
        go_wp2
        go_ret
        rw [Hr2.out]
        exact ⟨rfl, Hb5.out⟩
    · have Hm := Lib.hid (validMap_any a w5 _ Hu5.out)
      go_wp2_with (go_at_call 106; refine Hm.out.mono ?_; rintro e w6 ⟨rfl, q⟩; have Hb6 := Lib.hid (Hb5.out.step q); clear q)
      go_ret
      rw [Hr.out]
      exact ⟨rfl, Hb6.out⟩
    · have Hm := Lib.hid (validFunction_any a w5 _ Hu5.out)
      go_wp2_with (go_at_call 107; refine Hm.out.mono ?_; rintro e w6 ⟨rfl, q⟩; have Hb6 := Lib.hid (Hb5.out.step q); clear q)
      go_ret
      rw [Hr.out]
      exact ⟨rfl, Hb6.out⟩
set_option maxHeartbeats 16000000 in
theorem node0_any (a : VV) (hk : ¬ (1 ≤ a.kind ∧ a.kind ≤ 9)) (w : World) (u : Value) (hu : VW w u a) : Calls Tryz.prog 84 #[u] w (ER (nodeV a) w) := by
  have hd : (decide (1 ≤ a.kind) && decide (a.kind ≤ 9)) = false := by rw [Bool.eq_false_iff]; intro h; simp at h; omega
  have Hn := Lib.hid (show nodeV a = false by unfold nodeV; rw [hd]; simp)
  obtain ⟨_, q1, q2, q3, q4, q5, q6, q7, q8, rfl, -, -, -, -, -⟩ := hu.ex
  have Hd := Lib.hid hd
  clear hu hk hd
  go_enter Tryz.func84, Tryz.ntmps84
  go_upto_region 1 with fail
  have hA := heap_alloc_new w (.cells #[.int .i64 a.kind, .int .i64 a.num, .string a.text, .slice q1 a.kids.length q2, .slice q3 a.keys.length q4, .slice q5 a.ents.length q6, .slice q7 a.labels.length q8] 28)
  have hb : Below w.heap.size w (w.alloc (.cells #[.int .i64 a.kind, .int .i64 a.num, .string a.text, .slice q1 a.kids.length q2, .slice q3 a.keys.length q4, .slice q5 a.ents.length q6, .slice q7 a.labels.length q8] 28)) := (Below.refl _ _).alloc (Nat.le_refl _) _
  generalize w.alloc (.cells #[.int .i64 a.kind, .int .i64 a.num, .string a.text, .slice q1 a.kids.length q2, .slice q3 a.keys.length q4, .slice q5 a.ents.length q6, .slice q7 a.labels.length q8] 28) = w2 at *
  have Hb := Lib.hid hb
  obtain ⟨⟨f0, f1, f2, f3⟩, f4, f5, f6⟩ := cells7 hA
  have Hus := Lib.hid (uses_any a.kind w2)
  clear hA hb
  go_upto_region 2 with (go_at_call 104; refine Hus.out.mono ?_; rintro e w3 ⟨rfl, q⟩; rw [Hd.out]; have Hb3 := Lib.hid (Hb.out.step q); clear q)
  have Hb4 := Lib.hid (Hb3.out.step ((Below.refl w3.heap.size w3).alloc (Nat.le_refl _) (.cells #[.bool (usesNum a.kind), .bool (usesText a.kind), .bool (usesKids a.kind), .bool (decide (a.kind = 8)), .bool (decide (a.kind = 9))] 120)))
  generalize w3.alloc (.cells #[.bool (usesNum a.kind), .bool (usesText a.kind), .bool (usesKids a.kind), .bool (decide (a.kind = 8)), .bool (decide (a.kind = 9))] 120) = w4 at *
  clear f0 f1 f2 f3 f4 f5 f6
  go_wp2
  go_ret
  rw [Hn.out]
  exact ⟨rfl, Hb4.out⟩
theorem validNode_any (a : VV) (w : World) (u : Value) (hu : VW w u a) : Calls Tryz.prog 84 #[u] w (ER (nodeV a) w) := by
  by_cases h : 1 ≤ a.kind ∧ a.kind ≤ 9
  · exact node9_any a (by omega) w u hu
  · exact node0_any a h w u hu
end Go.Proofs.YtjgldaaofdpcgaaGreat
