/-
  Walks: the reference's Paths, the law's ints and holds; plain: one way at most holds.
-/
import Derived.Test.YtkppcibffbnhoaaK2
import Derived.Test.YtkppcibffbnhoaaG9
namespace Go.Proofs.Ytkppcibffbnhoaa
open Go.RowKit
set_option maxRecDepth 100000

theorem ways46 (p : Option Addr) (cap : Nat) (r : Int) (L : List T) (hL : L.length ≤ 100000) (wf : Wf L) : ∀ (t : T), inn L t → ∀ (v1 v2 : Value) (pos neg : List Int) (w : World), NS w p (nodes L) → I3 w v1 pos → I3 w v2 neg →
    pos.length + neg.length ≤ t.lit → (waysT t pos neg).length ≤ 100000 →
    Calls Try.prog 46 #[.agg #[.slice p (nodes L).length cap, .int .i64 r], .int .i64 (ref L t), v1, v2] w (RW (waysT t pos neg) w) := by
  intro t
  induction t with
  | c b =>
    intro _ v1 v2 pos neg w hns h1 h2 hl hw
    cases b with
    | false => exact ways_false _ v1 v2 _ _ rfl w
    | true =>
      obtain ⟨p1, c1, rfl, -, -⟩ := id h1
      obtain ⟨p2, c2, rfl, -, -⟩ := id h2
      exact ways_true p1 p2 _ _ c1 c2 _ _ _ rfl pos neg w h1 h2
  | n l H K ihH ihK =>
    intro iL v1 v2 pos neg w hns h1 h2 hl hw
    have iLm : T.n l H K ∈ L := iL
    obtain ⟨kh, kk⟩ := wf.kids iLm
    have ot := wf.ok _ iLm
    have l12 := lit_lt ot
    have hl' : pos.length + neg.length ≤ l := hl
    have hlen := congrArg List.length (show waysT (.n l H K) pos neg = waysT H (pos ++ [(l : Int)]) neg ++ waysT K pos (neg ++ [(l : Int)]) from rfl)
    rw [List.length_append] at hlen
    obtain ⟨p1, c1, rfl, -, -⟩ := id h1
    obtain ⟨p2, c2, rfl, -, -⟩ := id h2
    obtain ⟨hidx, -⟩ := nodes_at iLm
    obtain ⟨a, o, rfl, -, -, -, -⟩ := hns _ hidx
    refine ways_node a o cap r L p1 p2 c1 c2 pos neg l H K w hns wf h1 h2 (by omega) (by omega) (by omega) (by omega) iLm hL ?_ ?_
    · intro v1' w' g1 g2 g3
      exact ihH kh v1' _ _ neg w' g1 g2 g3 (by have := ot.2.2.1; rw [List.length_append]; simp; omega) (by omega)
    · intro v2' w' g1 g2 g3
      exact ihK kk _ v2' pos _ w' g1 g2 g3 (by have := ot.2.2.2.1; rw [List.length_append]; simp; omega) (by omega)
set_option maxHeartbeats 8000000 in
theorem paths20_any (v : Value) (t : T) (w : World) (h : DV w v t) : Calls Try.prog 20 #[v] w (WaysR (waysT t [] []) w) := by
  obtain ⟨p, cap, rfl, hns⟩ := id h.dd.ex
  have hA1 := (Below.refl w.heap.size w).alloc (Nat.le_refl _) (.cells #[.slice p (canonN t).length cap, .int .i64 (canonR t)] 24)
  have hn1 := heap_alloc_new w (.cells #[.slice p (canonN t).length cap, .int .i64 (canonR t)] 24)
  obtain ⟨wf, iL⟩ := canon_wf h.ok
  have hcl := canon_len h.ok
  have hwl := ways_len h.ok [] []
  have hpw : 2 ^ (12 - t.lit) ≤ 2 ^ 12 := Nat.pow_le_pow_right (by omega) (by omega)
  have hcl2 : (canonL t).length ≤ 100000 := by have := nodes_length (canonL t); have h2 : (canonN t).length = (canonL t).length := this; omega
  have h46 := ways46 p cap (canonR t) (canonL t) hcl2 wf t iL (.slice none 0 0) (.slice none 0 0) [] [] _ (hns.below hA1) (I3.nil _) (I3.nil _) (by simp) (by omega)
  rw [show ref (canonL t) t = canonR t from rfl, show (nodes (canonL t)).length = (canonN t).length from rfl] at h46
  have HA := Lib.hid hA1; have H46 := Lib.hid h46
  clear hA1 h46 hns wf iL hcl hwl hpw hcl2 h
  go_enter Try.func20, Try.ntmps20
  go_upto_region 1 with fail
  generalize w.alloc (.cells #[.slice p (canonN t).length cap, .int .i64 (canonR t)] 24) = w1 at *
  obtain ⟨a0, a1, -⟩ := cells2 hn1
  clear hn1
  go_wp2_with (go_at_call 46; refine H46.out.mono ?_; rintro e w6 ⟨VP, v6, rfl, ho, hv, q⟩; have Ho := Lib.hid ho; have Hv := Lib.hid hv; have Q := Lib.hid q; clear ho hv q)
  go_ret
  obtain ⟨p6, c6, rfl⟩ := own_slice Ho.out
  exact ⟨p6, VP.length, c6, rfl, Hv.out.ps Ho.out, HA.out.step Q.out⟩
set_option maxHeartbeats 4000000 in
theorem ints_same (v1 v2 : Value) (xs : List Int) (w : World) (h1 : IS w v1 xs) (h2 : IS w v2 xs) (hl : xs.length ≤ 1000000) : Calls Try.prog 21 #[v1, v2] w (ER true w) := by
  obtain ⟨p1, c1, rfl, hc1, hr1⟩ := h1
  obtain ⟨p2, c2, rfl, hc2, hr2⟩ := h2
  have R1 := Lib.hid hr1; have R2 := Lib.hid hr2
  have f1 : ((xs.length : Int) != (xs.length : Int)) = false := by simp
  clear hr1 hr2
  go_enter Try.func21, Try.ntmps21
  go_wp2
  go_loopw [5] (fun i wr => ∃ k : Nat, i = .int .i64 k ∧ k ≤ xs.length ∧ Below w.heap.size w wr) (fun i _ => xs.length - (intOf i).toNat)
  case atStart => exact ⟨0, rfl, by omega, Below.refl _ _⟩
  case round =>
    obtain ⟨k, rfl, hk, hb⟩ := hrel
    have Hb := Lib.hid hb; clear hb
    by_cases hlt : k < xs.length
    · obtain ⟨a1, o1, rfl, ha1, hz1⟩ := (R1.out.below Hb.out).2 (by omega)
      obtain ⟨a2, o2, rfl, ha2, hz2⟩ := (R2.out.below Hb.out).2 (by omega)
      have z1 := hz1 k (.int .i64 xs[k]) (by simp [ic, hlt])
      have z2 := hz2 k (.int .i64 xs[k]) (by simp [ic, hlt])
      generalize xs[k] = x at *
      have f2 : (x != x) = false := by simp
      clear hz1 hz2
      go_wp2_with (first
        | ((with_reducible refine Lex.at_region ?_); with_reducible refine Lex.wp_region_lex (by kernel_rfl) (by decide +kernel) ?_)
        | ((with_reducible refine Lex.at_fin ?_); with_reducible refine Lex.fin_on (by kernel_rfl) ?_))
      exact ⟨⟨k + 1, by go_num, by omega, Hb.out.drew⟩, by simp [intOf]; omega⟩
    · obtain rfl : k = xs.length := by omega
      go_wp2
      go_ret
      exact ⟨rfl, Hb.out⟩
theorem bit_u64 (a l : Nat) (ha : a < 18446744073709551616) : bits .and .u64 ((a : Int) / 2 ^ l) 1 = if a.testBit l then 1 else 0 := by
  have h1 : ((a : Int) / 2 ^ l) = ((a / 2 ^ l : Nat) : Int) := by simp
  have h2 := bits_and_u64 (a / 2 ^ l) 1 (Nat.lt_of_le_of_lt (Nat.div_le_self _ _) ha) (by omega)
  rw [h1]
  have h3 : ((1 : Nat) : Int) = 1 := rfl
  rw [h3] at h2
  rw [h2, Nat.and_one_is_mod, Nat.testBit_eq_decide_div_mod_eq]
  rcases Nat.mod_two_eq_zero_or_one (a / 2 ^ l) with h | h <;> simp [h]
set_option maxHeartbeats 8000000 in
theorem holdsu_any (v1 v2 : Value) (pos neg : List Int) (a : Nat) (ha : a < 18446744073709551616) (w : World) (h1 : IS w v1 pos) (h2 : IS w v2 neg) (l1 : litsI pos) (l2 : litsI neg) (b1 : pos.length ≤ 1000000) (b2 : neg.length ≤ 1000000) :
    Calls Try.prog 22 #[.agg #[v1, v2], .int .u64 a] w (ER (holdsP a (pos, neg)) w) := by
  obtain ⟨p1, c1, rfl, hc1, hr1⟩ := h1
  obtain ⟨p2, c2, rfl, hc2, hr2⟩ := h2
  have hal := (Below.refl w.heap.size w).alloc (Nat.le_refl _) (.cells #[.slice p1 pos.length c1, .slice p2 neg.length c2] 46)
  have hn := heap_alloc_new w (.cells #[.slice p1 pos.length c1, .slice p2 neg.length c2] 46)
  have R1 := Lib.hid (hr1.below hal); have R2 := Lib.hid (hr2.below hal)
  have L1 := Lib.hid l1; have L2 := Lib.hid l2
  clear hr1 hr2 l1 l2
  go_enter Try.func22, Try.ntmps22
  go_upto_region 1 with fail
  have Hal := Lib.hid hal; clear hal
  generalize w.alloc (.cells #[.slice p1 pos.length c1, .slice p2 neg.length c2] 46) = w1 at *
  obtain ⟨d0, d1, -⟩ := cells2 hn
  clear hn
  go_wp2
  go_loop [5] (fun i => ∃ k : Nat, i = .int .i64 k ∧ k ≤ pos.length ∧ (∀ i (hi : i < pos.length), i < k → a.testBit (pos[i]).toNat = true)) (fun i => pos.length - (intOf i).toNat)
  case atStart => exact ⟨0, rfl, by omega, fun i hi h0 => by omega⟩
  case round =>
    obtain ⟨k, rfl, hk, hall⟩ := hrel
    have Hall := Lib.hid hall; clear hall
    by_cases hlt : k < pos.length
    · obtain ⟨ab, off, rfl, hab, hz⟩ := R1.out.2 (by omega)
      have z0 := hz k (.int .i64 pos[k]) (by simp [ic, hlt])
      obtain ⟨s1, s2⟩ := L1.out k hlt
      have hnx : a.testBit (pos[k]).toNat = true → ∀ i (hi : i < pos.length), i < k + 1 → a.testBit (pos[i]).toNat = true := fun h i hi hik => by
        rcases Nat.lt_succ_iff_lt_or_eq.1 hik with h1 | rfl
        · exact Hall.out i hi h1
        · exact h
      have hno : a.testBit (pos[k]).toNat = false → holdsP a (pos, neg) = false := fun h => by
        have : posB a pos = false := all_not (f := fun x => a.testBit x.toNat) hlt h
        simp only [holdsP, this, Bool.false_and]
      generalize pos[k] = x at *
      obtain ⟨x, rfl⟩ : ∃ n : Nat, x = (n : Int) := ⟨x.toNat, by omega⟩
      simp only [Int.toNat_natCast] at hnx hno
      have hbit := bit_u64 a x ha
      have Hnx := Lib.hid hnx; have Hno := Lib.hid hno; clear hnx hno hz
      cases hb : a.testBit x with
      | true =>
        rw [hb, if_pos rfl] at hbit
        have Hn := Lib.hid (Hnx.out hb); clear hb
        go_wp2
        exact ⟨⟨k + 1, by go_num, by omega, Hn.out⟩, by simp [intOf]; omega⟩
      | false =>
        rw [hb, if_neg (by simp)] at hbit
        have Hn := Lib.hid (Hno.out hb); clear hb
        go_wp2
        go_ret
        rw [Hn.out]
        exact ⟨rfl, Hal.out⟩
    · obtain rfl : k = pos.length := by omega
      have hp : posB a pos = true := all_upto fun i hi => Hall.out i hi hi
      have Hp := Lib.hid hp; clear hp Hall
      go_wp2
      go_loop [6] (fun i => ∃ k : Nat, i = .int .i64 k ∧ k ≤ neg.length ∧ (∀ i (hi : i < neg.length), i < k → a.testBit (neg[i]).toNat = false)) (fun i => neg.length - (intOf i).toNat)
      case atStart => exact ⟨0, rfl, by omega, fun i hi h0 => by omega⟩
      case round =>
        obtain ⟨k, rfl, hk, hall⟩ := hrel
        have Hall := Lib.hid hall; clear hall
        by_cases hlt2 : k < neg.length
        · obtain ⟨ab, off, rfl, hab, hz⟩ := R2.out.2 (by omega)
          have z0 := hz k (.int .i64 neg[k]) (by simp [ic, hlt2])
          obtain ⟨s1, s2⟩ := L2.out k hlt2
          have hnx : a.testBit (neg[k]).toNat = false → ∀ i (hi : i < neg.length), i < k + 1 → a.testBit (neg[i]).toNat = false := fun h i hi hik => by
            rcases Nat.lt_succ_iff_lt_or_eq.1 hik with h1 | rfl
            · exact Hall.out i hi h1
            · exact h
          have hno : a.testBit (neg[k]).toNat = true → holdsP a (pos, neg) = false := fun h => by
            have : negB a neg = false := all_not (f := fun x => !(a.testBit x.toNat)) hlt2 (by simp [h])
            simp only [holdsP, this, Bool.and_false]
          generalize neg[k] = x at *
          obtain ⟨x, rfl⟩ : ∃ n : Nat, x = (n : Int) := ⟨x.toNat, by omega⟩
          simp only [Int.toNat_natCast] at hnx hno
          have hbit := bit_u64 a x ha
          have Hnx := Lib.hid hnx; have Hno := Lib.hid hno; clear hnx hno hz
          cases hb : a.testBit x with
          | false =>
            rw [hb, if_neg (by simp)] at hbit
            have Hn := Lib.hid (Hnx.out hb); clear hb
            go_wp2
            exact ⟨⟨k + 1, by go_num, by omega, Hn.out⟩, by simp [intOf]; omega⟩
          | true =>
            rw [hb, if_pos rfl] at hbit
            have Hn := Lib.hid (Hno.out hb); clear hb
            go_wp2
            go_ret
            rw [Hn.out]
            exact ⟨rfl, Hal.out⟩
        · obtain rfl : k = neg.length := by omega
          have hq : negB a neg = true := all_upto fun i hi => by simp [Hall.out i hi hi]
          have Hr := Lib.hid (show holdsP a (pos, neg) = true by simp only [holdsP, Hp.out, hq, Bool.and_self])
          clear hq Hall
          go_wp2
          go_ret
          rw [Hr.out]
          exact ⟨rfl, Hal.out⟩

theorem litsI_one {l : Nat} (h : l < 12) : litsI [(l : Int)] := fun k hk => by
  obtain rfl : k = 0 := by simpa using hk
  exact ⟨by simp, by simp; omega⟩
theorem ways_lits : ∀ {t : T}, t.Ok → ∀ (pos neg : List Int), litsI pos → litsI neg → ∀ p ∈ waysT t pos neg, litsI p.1 ∧ litsI p.2
  | .c false, _, _, _, _, _, _, h => by simp [waysT] at h
  | .c true, _, pos, neg, h1, h2, p, h => by
    simp only [waysT, List.mem_singleton] at h
    subst h; exact ⟨h1, h2⟩
  | .n l H K, o, pos, neg, h1, h2, p, h => by
    have l12 := lit_lt o
    simp only [waysT, List.mem_append] at h
    rcases h with h | h
    · exact ways_lits o.1 _ _ (litsI_app.2 ⟨h1, litsI_one l12⟩) h2 p h
    · exact ways_lits o.2.1 _ _ h1 (litsI_app.2 ⟨h2, litsI_one l12⟩) p h
theorem ways_lens : ∀ {t : T}, t.Ok → ∀ (pos neg : List Int), ∀ p ∈ waysT t pos neg, p.1.length + p.2.length + t.lit ≤ pos.length + neg.length + 12
  | .c false, _, _, _, _, h => by simp [waysT] at h
  | .c true, _, pos, neg, p, h => by
    simp only [waysT, List.mem_singleton] at h
    subst h; simp [T.lit]
  | .n l H K, o, pos, neg, p, h => by
    simp only [waysT, List.mem_append] at h
    have h3 := o.2.2.1
    have h4 := o.2.2.2.1
    rcases h with h | h
    · have := ways_lens o.1 _ _ p h
      rw [List.length_append] at this
      simp only [T.lit, List.length_singleton] at *
      omega
    · have := ways_lens o.2.1 _ _ p h
      rw [List.length_append] at this
      simp only [T.lit, List.length_singleton] at *
      omega
/-- One way holds where the tree says true, and none where it says false. -/
theorem ways_count (a : Nat) : ∀ (t : T) (pos neg : List Int), (waysT t pos neg).countP (holdsP a) = if posB a pos && negB a neg && t.ev (bitsF a) then 1 else 0
  | .c false, _, _ => by simp [waysT, T.ev]
  | .c true, pos, neg => by simp [waysT, T.ev, List.countP_cons, holdsP]
  | .n l H K, pos, neg => by
    rw [waysT, List.countP_append, ways_count a H, ways_count a K]
    have e1 : posB a (pos ++ [(l : Int)]) = (posB a pos && a.testBit l) := by simp [posB]
    have e2 : negB a (neg ++ [(l : Int)]) = (negB a neg && !(a.testBit l)) := by simp [negB]
    have e3 : (T.n l H K).ev (bitsF a) = (if a.testBit l then H.ev (bitsF a) else K.ev (bitsF a)) := rfl
    rw [e1, e2, e3]
    cases posB a pos <;> cases negB a neg <;> cases a.testBit l <;> simp
end Go.Proofs.Ytkppcibffbnhoaa
