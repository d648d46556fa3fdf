/-
  Walks: the reference's Components.
-/
import Derived.Test.YteejlibiidiibaaU1
namespace Go.Proofs.Yteejlibiidiibaa
open Go.RowKit
set_option maxRecDepth 100000
/-- The lists that have come out. -/
structure OutV (w : World) (B : Nat) (v : Value) (out : List (List Int)) : Prop where
  ex : ∃ gs, w.ownsRow B 22 1 v out.length gs ∧ ∀ (t : Nat) (C : List Int), out[t]? = some C → ∃ u, gs[t]? = some u ∧ I3 w u C
theorem OutV.nil (w : World) (B : Nat) : OutV w B (.slice none 0 0) [] := ⟨[], World.ownsRow_nil _ _ _ _, fun t C h => by simp at h⟩
theorem OutV.keep {w w' : World} {B : Nat} {v : Value} {out : List (List Int)} (h : OutV w B v out) (e : ∀ (a : Nat) (arr : Array Value) (t : TypeId), w.heap[a]? = some (.cells arr t) → t = 3 ∨ t = 22 → w'.heap[a]? = w.heap[a]?) : OutV w' B v out := by
  obtain ⟨gs, h1, h2⟩ := h.ex
  refine ⟨gs, ownsRow_at h1 fun g hg => ?_, fun t C ht => ?_⟩
  · obtain ⟨_, tc, h4⟩ := own_ty h1 hg; exact e _ _ _ h4 (.inr rfl)
  · obtain ⟨u, h3, h4⟩ := h2 t C ht
    exact ⟨u, h3, h4.keep fun a arr ha => e a arr 3 ha (.inl rfl)⟩
theorem OutV.below {w w' : World} {B : Nat} {v : Value} {out : List (List Int)} (h : OutV w B v out) (hb : Below w.heap.size w w') : OutV w' B v out := h.keep fun a arr t ha _ => hb.block a (heap_lt ha)
theorem OutV.gs {w : World} {B : Nat} {v : Value} {out : List (List Int)} (h : OutV w B v out) : ∃ p c, v = .slice p out.length c ∧ GS w p out.length out := by
  obtain ⟨gs, h1, h2⟩ := h.ex
  obtain ⟨p, c, rfl⟩ := own_slice h1
  refine ⟨p, c, rfl, rfl, fun k hk => ?_⟩
  obtain ⟨g, rfl⟩ := own_ptr h1 (by omega)
  obtain ⟨u, h3, h4⟩ := h2 k _ (List.getElem?_eq_getElem hk)
  obtain ⟨a', o', he, h5, h6⟩ := (RC.of_own h1).2 (by omega)
  injection he with he; injection he with e1 e2; subst e1 e2
  exact ⟨g, 0, u, rfl, h5, h6 k _ h3, h4.is⟩
/-- A list is put behind. -/
theorem OutV.push {w w1 w3 : World} {B : Nat} {v v' u : Value} {out : List (List Int)} {C : List Int} (h : OutV w B v out) (hu : I3 w u C) (gs : List Value) (h1 : w.ownsRow B 22 1 v out.length gs) (h2 : ∀ (t : Nat) (C : List Int), out[t]? = some C → ∃ u, gs[t]? = some u ∧ I3 w u C)
    (hw : w1 = w.alloc (.cells #[u] 22)) (hf : Fr [] v v' w1 w3) (hr : w3.ownsRow B 22 1 v' (out.length + 1) (gs ++ [u])) : OutV w3 B v' (out ++ [C]) := by
  have hb1 : Below w.heap.size w w1 := hw ▸ (Below.refl _ _).alloc (Nat.le_refl _) _
  have hk : ∀ (a : Nat) (arr : Array Value), w.heap[a]? = some (.cells arr 3) → w3.heap[a]? = w.heap[a]? := fun a arr ha => by
    have ha1 := (hb1.block a (heap_lt ha)).trans ha
    refine (hf.block a (heap_lt ha1) (by simp) fun e => ?_).trans (hb1.block a (heap_lt ha))
    obtain ⟨_, tc, h4⟩ := own_ty h1 e
    rw [ha] at h4; cases h4
  have hgl : gs.length = out.length := by have := h1.1; omega
  refine ⟨gs ++ [u], by rw [List.length_append, List.length_singleton]; exact hr, fun t C' ht => ?_⟩
  rcases Nat.lt_or_ge t out.length with hl | hl
  · rw [List.getElem?_append_left hl] at ht
    obtain ⟨u', h3, h4⟩ := h2 t C' ht
    exact ⟨u', by rw [List.getElem?_append_left (by omega)]; exact h3, h4.keep hk⟩
  · have hl2 : t < (out ++ [C]).length := by
      rcases Nat.lt_or_ge t (out ++ [C]).length with h5 | h5
      · exact h5
      · rw [List.getElem?_eq_none h5] at ht; cases ht
    simp at hl2
    obtain rfl : t = out.length := by omega
    have : C' = C := by simpa using ht.symm
    subst this
    exact ⟨u, by rw [List.getElem?_append_right (by omega)]; simp [hgl], hu.keep hk⟩
theorem cnt_nil (n : Nat) : cnt n (dnB []) = 0 := by
  have h : ∀ m, dnB [] m = false := fun m => by
    cases h : dnB [] m
    · rfl
    · obtain ⟨C, h1, _⟩ := dnB_iff.1 h; cases h1
  induction n with
  | zero => rfl
  | succ n ih => simp [cnt, List.range_succ, List.countP_append, List.countP_cons, h] at ih ⊢
theorem dnB_nil (m : Nat) : dnB [] m = false := by
  cases h : dnB [] m
  · rfl
  · obtain ⟨C, h1, _⟩ := dnB_iff.1 h; cases h1
theorem cnt_all (n : Nat) : cnt n (fun _ => true) = n := by simp [cnt]
/-- How Components ends. -/
def KR (E : Gr) (w : World) (e : Ending) (w' : World) : Prop := ∃ out p c, e = .returned (.slice p out.length c) ∧ GS w' p out.length out ∧ Topo E out ∧ (∀ i, i < E.length → inn out i) ∧ Below w.heap.size w w'
set_option maxHeartbeats 32000000 in
theorem refcomps_any (w : World) (p : Option Addr) (n c : Nat) (E : Gr) (h : GS w p n E) (hs : SmallG E) (hn : n ≤ 1000) :
    Calls Try.prog 12 #[.slice p n c] w (KR E w) := by
  have Hn := Lib.hid h.len
  have H := Lib.hid h; have HS := Lib.hid hs
  have hmk1 := run_make_rows n (by omega)
  have hmk2 := run_make_bool n (by omega)
  have hb1 := (Below.refl w.heap.size w).alloc (Nat.le_refl _) (.cells (madeCells #[.slice none 0 0] n) 22)
  have V1 := Lib.hid (VT.made w n)
  clear h hs
  go_enter Try.func12, Try.ntmps12
  go_upto_region 3 with fail
  generalize w.alloc (.cells (madeCells #[.slice none 0 0] n) 22) = w1 at *
  have Hb1 := Lib.hid hb1
  clear hb1
  go_wp2
  go_loopw [22] (fun a wr => ∃ k : Nat, a = .int .i64 k ∧ k ≤ n ∧ VT wr w.heap.size n (fun m => if m < k then reachL E m else []) ∧ Below w.heap.size w wr) (fun a _ => n - (intOf a).toNat)
  case atStart => exact ⟨0, rfl, by omega, V1.out.congr fun m _ => by simp, Hb1.out⟩
  case round =>
    obtain ⟨k, rfl, hk, hV, hb⟩ := hrel
    have HV := Lib.hid hV; have Hb := Lib.hid hb
    clear hV hb
    by_cases hlt : k < n
    · have b6 : Below wr.heap.size wr (wr.alloc (.cells #[.int .i64 k] 3)) := (Below.refl _ _).alloc (Nat.le_refl _) _
      have n6 := heap_alloc_new wr (.cells #[.int .i64 k] 3)
      have hIS : IS (wr.alloc (.cells #[.int .i64 k] 3)) (.slice (some ⟨wr.heap.size, 0, none⟩) 1 1) [(k : Int)] := ⟨_, 1, rfl, Nat.le_refl _, RC.row rfl n6 (fun j u hu => by simpa [ic] using hu)⟩
      have hg6 := H.out.below (Hb.out.step b6)
      have Hcall := Lib.hid (refreach_any _ p n c E [(k : Int)] _ hg6 HS.out hIS (by simp))
      have Hb6 := Lib.hid (Hb.out.step b6)
      have HV6 := Lib.hid (HV.out.below b6)
      have HbV := Lib.hid b6
      clear b6 n6 hIS hg6
      go_wp2_with (go_at_call 18; refine Hcall.out.mono ?_; rintro e w3 ⟨v3, rfl, ho, hb3⟩; obtain ⟨p3, c3, rfl⟩ := own_slice ho; have Ho := Lib.hid ho; have Hb3 := Lib.hid (Hb6.out.step hb3); have HV3 := Lib.hid (HV6.out.below hb3); obtain ⟨v0, z0, -⟩ := HV3.out.cell hlt; have z1 := HV3.out.free k; clear ho hb3)
      have hset := HV3.out.set hlt (I3.of_own Ho.out)
      refine ⟨⟨k + 1, by go_num, by omega, hset.1.congr fun m hm => ?_, Hb3.out.trans (hset.2.below (Nat.le_refl _))⟩, by simp [intOf]; omega⟩
      by_cases e : m = k
      · subst e
        rw [if_pos (Nat.lt_succ_self m), if_pos rfl]
        unfold reachL
        rw [← Hn.out]
      · by_cases e2 : m < k
        · simp [e, e2, show m < k + 1 by omega]
        · simp [e, e2, show ¬ m < k + 1 by omega]
    · obtain rfl : k = n := by omega
      obtain ⟨w2, hw2⟩ : ∃ w2 : World, w2 = wr := ⟨_, rfl⟩
      subst hw2
      have Hw2 := Lib.hid Hb.out
      have HV2 := Lib.hid (HV.out.congr (g := reachL E) fun m hm => by simp [hm])
      have hb3 := (Below.refl w2.heap.size w2).alloc (Nat.le_refl _) (.cells (madeCells #[.bool false] k) 4)
      have T3 := Lib.hid (BT.made w2 k)
      go_upto_region 9 with fail
      generalize hw3 : w2.alloc (.cells (madeCells #[.bool false] k) 4) = w3 at *
      have Hb3 := Lib.hid hb3
      have Hs3 := Lib.hid (show w3.heap.size = w2.heap.size + 1 by rw [← hw3]; simp)
      clear hb3 hw3 hmk1 hmk2
      go_wp2
      go_loopw [7, 8] (fun o a wr => ∃ out : List (List Int), a = .int .i64 (cnt k (dnB out)) ∧ out.length ≤ cnt k (dnB out) ∧ OutV wr (w2.heap.size + 1) o out ∧ BT wr w2.heap.size k (dnB out) ∧ Topo E out ∧ Below w2.heap.size w2 wr) (fun _ a _ => k - (intOf a).toNat)
      case atStart => exact ⟨[], by rw [show cnt k (dnB []) = 0 from cnt_nil k]; rfl, Nat.zero_le _, OutV.nil _ _, T3.out.congr fun m hm => dnB_nil m, Topo.nil E, Hb3.out⟩
      case round =>
        obtain ⟨out, rfl, hol, hO, hD, hT, hb⟩ := hrel
        obtain ⟨po, co, rfl, hgs⟩ := hO.gs
        have Hgs := Lib.hid hgs; clear hgs
        have HO := Lib.hid hO; have HD := Lib.hid hD; have HT := Lib.hid hT; have Hb := Lib.hid hb
        have hcl := cnt_le k (dnB out)
        clear hO hD hT hb
        by_cases hlt : cnt k (dnB out) < k
        · have hex : ∃ i, i < E.length ∧ ¬ inn out i := by
            apply Classical.byContradiction
            intro hno
            have : cnt k (fun _ => true) ≤ cnt k (dnB out) := cnt_mono fun i hi _ => dnB_iff.2 (Classical.byContradiction fun h => hno ⟨i, by rw [← Hn.out]; exact hi, h⟩)
            rw [cnt_all] at this; omega
          obtain ⟨i0, hi0, hi1⟩ := hex
          obtain ⟨js, hj1, hj2, hj3, hj4⟩ := Rdy.least hi0 hi1
          have hjs : js < k := by rw [Hn.out]; exact hj1
          have Hj2 := Lib.hid hj2; have Hj3 := Lib.hid hj3; have Hj4 := Lib.hid hj4
          have Hlt := Lib.hid hlt
          obtain ⟨wo, hwo⟩ : ∃ wo : World, wo = wr := ⟨_, rfl⟩
          subst hwo
          clear hj1 hj2 hj3 hj4 hi0 hi1 i0
          go_wp2
          go_loopw [7, 8, 9] (fun o7 o8 a wr => ∃ i : Nat, o7 = .slice po out.length co ∧ o8 = .int .i64 (cnt k (dnB out)) ∧ a = .int .i64 i ∧ i ≤ js ∧ Below wo.heap.size wo wr) (fun _ _ a _ => k - (intOf a).toNat)
          case atStart => exact ⟨0, rfl, rfl, rfl, by omega, Below.refl _ _⟩
          case round =>
            obtain ⟨i, rfl, rfl, rfl, hij, hbi⟩ := hrel
            have Hbi := Lib.hid hbi
            have hik : i < k := by omega
            have dik : decide (i < k) = true := by simpa using hik
            have HDi := Lib.hid (HD.out.below hbi)
            have Hbo := Lib.hid (Hb.out.trans (hbi.mono Hb.out.size))
            have zd := HDi.out.cell hik
            clear hbi
            have Hd0 : Hid (∀ b, dnB out i = b → dnB out i = b) := Lib.hid fun _ h => h
            cases hdi : dnB out i with
            | true =>
              rw [hdi] at zd
              have hne : i ≠ js := fun e => by subst e; exact Hj2.out (dnB_iff.1 hdi)
              have hij2 : i + 1 ≤ js := by omega
              clear hdi hne
              go_wp2
              exact ⟨⟨i + 1, rfl, rfl, by go_num, hij2, Hbi.out⟩, by simp [intOf]; omega⟩
            | false =>
              rw [hdi] at zd
              have Hdi := Lib.hid (show ¬ inn out i from fun h => by rw [dnB_iff.2 h] at hdi; cases hdi)
              have hiE : i < E.length := by rw [← Hn.out]; exact hik
              have HiE := Lib.hid hiE
              obtain ⟨v1, zr, hI1⟩ := (HV2.out.below Hbo.out).cell hik
              obtain ⟨q1, c1, rfl, hq1, hrt1⟩ := hI1
              have hRl : (reachL E i).length ≤ 1000 := by have := marked_len E.length (rb E (inS [(i : Int)])); have := Hn.out; unfold reachL; omega
              have Hrt := Lib.hid hrt1
              obtain ⟨wi, hwi⟩ : ∃ wi : World, wi = wr := ⟨_, rfl⟩
              subst hwi
              clear hdi hiE hrt1
              go_wp2
              go_loopw [52, 10, 11] (fun a o b wr => ∃ m : Nat, a = .int .i64 m ∧ m ≤ (reachL E i).length ∧ wr.ownsRow wi.heap.size 3 1 o (sameL E i m).length (ic (sameL E i m)) ∧ b = .bool (readyL E (dnB out) i m) ∧ Below wi.heap.size wi wr) (fun a _ _ _ => (reachL E i).length - (intOf a).toNat)
              case atStart => exact ⟨0, rfl, by omega, World.ownsRow_nil _ _ _ _, by simp [readyL], Below.refl _ _⟩
              case round =>
                obtain ⟨m, rfl, hm, hown, rfl, hb4⟩ := hrel
                have Hown := Lib.hid hown; have Hb4 := Lib.hid hb4
                clear hown hb4
                by_cases hlm : m < (reachL E i).length
                · have hbo4 := Hbo.out.trans (Hb4.out.mono Hbo.out.size)
                  obtain ⟨a5, o5, rfl, ha5, z5⟩ := ((show RT wi 3 1 _ _ _ from Hrt.out).below Hb4.out).rc.at hlm
                  obtain ⟨x, hx, hpx⟩ := mem_reachL.1 (List.getElem_mem hlm)
                  have hxk : x < k := by rw [Hn.out]; exact hpx.lt.2
                  have Hss := Lib.hid (sameL_succ (E := E) hlm)
                  have Hrs := Lib.hid (readyL_succ (E := E) (f := dnB out) hlm)
                  rw [hx] at z5 Hss Hrs
                  obtain ⟨v6, z6, hI6⟩ := (HV2.out.below hbo4).cell hxk
                  have hRx : (reachL E x).length ≤ 1000000 := by have := marked_len E.length (rb E (inS [(x : Int)])); have := Hn.out; unfold reachL; omega
                  have hcall := in_any v6 (reachL E x) (i : Int) wr hI6.is hRx
                  obtain ⟨q6, c6, rfl, _, _⟩ := hI6
                  have zdx := (HDi.out.below Hb4.out).cell hxk
                  have hbk : backB E i (x : Int) = decide ((i : Int) ∈ reachL E x) := by unfold backB; rw [Int.toNat_natCast]
                  rw [← hbk] at hcall
                  rw [Int.toNat_natCast] at Hrs
                  have hsl : (sameL E i m).length ≤ 1000 := by
                    unfold sameL
                    exact Nat.le_trans (List.length_filter_le _ _) (Nat.le_trans (List.length_take_le _ _) (by omega))
                  have Hcall := Lib.hid hcall
                  clear hx hpx hcall hbk hbo4 hRx
                  cases hbb : backB E i (x : Int) with
                  | true =>
                    rw [hbb] at Hcall Hss Hrs
                    clear hbb
                    have hbd : (sameL E i m).length + 1 ≤ 67108864 := by omega
                    go_upto_region 22 with (go_at_call 21; refine Hcall.out.mono ?_; rintro e w7 ⟨rfl, hb7⟩; have Hb7 := Lib.hid hb7; clear hb7)
                    have b6 : Below w7.heap.size w7 (w7.alloc (.cells #[.int .i64 x] 3)) := (Below.refl _ _).alloc (Nat.le_refl _) _
                    have n6 := heap_alloc_new w7 (.cells #[.int .i64 x] 3)
                    have Ho6 := Lib.hid (ownsRow_below (ownsRow_below Hown.out Hb7.out (Nat.le_refl _)) b6 (Nat.le_refl _))
                    have Hb6 := Lib.hid ((Hb4.out.step Hb7.out).step b6)
                    have Hbz := Lib.hid Hb6.out.size
                    have Hrc := Lib.hid (show RC (w7.alloc (.cells #[.int .i64 x] 3)) 1 (some ⟨w7.heap.size, 0, none⟩) 1 (ic [(x : Int)]) from RC.row rfl n6 (fun j u hu => by simpa [ic] using hu))
                    clear b6 n6
                    go_wp2_with (at_builtin; go_loud (refine wpList_append_ownrc rfl (.tmp 62) (.tmp 64) 22 rfl 3 (by kernel_rfl) int_info rfl (by decide) (by decide) wi.heap.size _ (some ⟨w7.heap.size, 0, none⟩) (sameL E i m).length 1 1 _ (ic [(x : Int)]) Hbz.out _ rfl rfl Ho6.out Hrc.out (ic_one _) hbd ?_); intro v8 w8 ho8 hf8; have Ho8 := Lib.hid ho8; have Hf8 := Lib.hid (hf8.below Hbz.out (by simp) (fun g hg => (Ho6.out.lt g hg).1)); clear ho8 hf8)
                    exact ⟨⟨m + 1, by go_num, by omega, by rw [Hss.out, if_pos trivial, List.length_append, show ic (sameL E i m ++ [(x : Int)]) = ic (sameL E i m) ++ ic [(x : Int)] by simp [ic]]; exact Ho8.out, by rw [Hrs.out]; simp, Hb6.out.trans Hf8.out⟩, by simp [intOf]; omega⟩
                  | false =>
                    rw [hbb] at Hcall Hss Hrs
                    clear hbb
                    cases hrd : readyL E (dnB out) i m with
                    | false =>
                      rw [hrd] at Hrs
                      clear hrd
                      go_wp2_with (go_at_call 21; refine Hcall.out.mono ?_; rintro e w7 ⟨rfl, hb7⟩; have Hb7 := Lib.hid hb7; clear hb7)
                      exact ⟨⟨m + 1, by go_num, by omega, by rw [Hss.out]; simpa using ownsRow_below Hown.out Hb7.out (Nat.le_refl _), by rw [Hrs.out]; simp, Hb4.out.step Hb7.out⟩, by simp [intOf]; omega⟩
                    | true =>
                      rw [hrd] at Hrs
                      clear hrd
                      have HDb := Lib.hid (HDi.out.below Hb4.out)
                      clear zdx
                      go_upto_region 23 with (go_at_call 21; refine Hcall.out.mono ?_; rintro e w7 ⟨rfl, hb7⟩; have Hb7 := Lib.hid hb7; clear hb7)
                      have zdx := (HDb.out.below Hb7.out).cell hxk
                      go_wp2
                      exact ⟨⟨m + 1, by go_num, by omega, by rw [Hss.out]; simpa using ownsRow_below Hown.out Hb7.out (Nat.le_refl _), by rw [Hrs.out]; simp, Hb4.out.step Hb7.out⟩, by simp [intOf]; omega⟩
                · have hmE : m = (reachL E i).length := by omega
                  have hsame := sameL_all HiE.out
                  have hrdy := readyL_all (E := E) (f := dnB out) (D := inn out) (fun q _ => dnB_iff) i
                  rw [← hmE] at hsame hrdy
                  have hown := Hown.out
                  rw [hsame] at hown
                  have HownC := Lib.hid hown
                  have Hsame := Lib.hid hsame
                  have Hrdy := Lib.hid hrdy
                  have dmm : decide (m < (reachL E i).length) = false := by simp; omega
                  have hO4 := HO.out.below ((Hbi.out.trans (Hb4.out.mono Hbi.out.size)))
                  have HO4 := Lib.hid hO4
                  have HD4 := Lib.hid (HDi.out.below Hb4.out)
                  have Hbo4 := Lib.hid (Hbo.out.trans (Hb4.out.mono Hbo.out.size))
                  have HmE := Lib.hid hmE
                  clear hown hsame hrdy hO4 hmE hlm
                  cases hrd : readyL E (dnB out) i m with
                  | false =>
                    have hne : i ≠ js := fun e => by
                      have h1 := Hrdy.out.2 (by rw [e]; exact Hj3.out)
                      rw [h1] at hrd; cases hrd
                    have hij2 : i + 1 ≤ js := by omega
                    clear hrd hne
                    go_wp2
                    exact ⟨⟨i + 1, rfl, rfl, by go_num, hij2, Hbi.out.trans (Hb4.out.mono Hbi.out.size)⟩, by simp [intOf]; omega⟩
                  | true =>
                    have hR := Hrdy.out.1 hrd
                    have heq : i = js := by
                      rcases Nat.lt_or_ge i js with h | h
                      · exact absurd hR (Hj4.out i h Hdi.out)
                      · omega
                    subst heq
                    clear hR hrd
                    have HTA := Lib.hid (show TopoAt E out (cls E i) from ⟨i, HiE.out, rfl, Hj2.out, Hj3.out, Hj4.out⟩)
                    have Hcnt := Lib.hid (show cnt k (dnB (out ++ [cls E i])) = cnt k (dnB out) + (cls E i).length from by
                      have h1 := TopoAt.cnt (E := E) (out := out) (i := i) Hj2.out fun q j hm hq => HT.out.closed hm hq
                      rw [← Hn.out] at h1; exact h1)
                    have HCm := Lib.hid (show ∀ x ∈ cls E i, ∃ q : Nat, q < k ∧ x = (q : Int) from fun x hx => by
                      obtain ⟨q, h1, h2⟩ := mem_cls.1 hx
                      exact ⟨q, by rw [Hn.out]; exact h2.1.lt.2, h1⟩)
                    have Hdn := Lib.hid (show ∀ q, dnB (out ++ [cls E i]) q = (dnB out q || decide ((q : Int) ∈ cls E i)) from fun q => by
                      rw [Bool.eq_iff_iff, Bool.or_eq_true, dnB_iff, dnB_iff, inn_snoc, decide_eq_true_iff])
                    have hCl : (cls E i).length ≤ 1000 := by have := marked_len E.length (mutB E i); have := Hn.out; unfold cls; omega
                    have hC0 : 0 < (cls E i).length := List.length_pos_of_mem (mem_cls.2 ⟨i, rfl, Mut.refl HiE.out⟩)
                    have HT' := Lib.hid (HT.out.snoc HTA.out)
                    generalize cls E i = C at *
                    obtain ⟨w4, hw4⟩ : ∃ w4 : World, w4 = wr := ⟨_, rfl⟩
                    subst hw4
                    obtain ⟨p10, c10, hv10⟩ := own_slice HownC.out
                    subst hv10
                    clear Hown
                    go_wp2
                    go_loopw [78] (fun a wr => ∃ m : Nat, a = .int .i64 m ∧ m ≤ C.length ∧ BT wr w2.heap.size k (fun q => dnB out q || decide ((q : Int) ∈ C.take m)) ∧ Tch w2.heap.size w4 wr) (fun a _ => C.length - (intOf a).toNat)
                    case atStart => exact ⟨0, rfl, by omega, HD4.out.congr fun q _ => by simp, HD4.out.tch⟩
                    case round =>
                      obtain ⟨l, rfl, hl, hBT, hTc⟩ := hrel
                      have HBT := Lib.hid hBT; have HTc := Lib.hid hTc
                      clear hBT hTc
                      have hkeep : ∀ (a : Nat) (arr : Array Value) (t : TypeId), w4.heap[a]? = some (.cells arr t) → t ≠ 4 → wr.heap[a]? = w4.heap[a]? := fun a arr t ha ht => by
                        obtain ⟨o, hu⟩ := HTc.out
                        refine hu.other a fun e => ?_
                        subst e
                        obtain ⟨tc, h1, _⟩ := HD4.out.ex
                        rw [ha] at h1; cases h1; exact ht rfl
                      have Hkeep := Lib.hid hkeep
                      have Hrow := Lib.hid (ownsRow_at HownC.out fun g hg => by
                        obtain ⟨_, tc, h4⟩ := own_ty HownC.out hg
                        exact hkeep _ _ _ h4 (by decide))
                      clear hkeep
                      by_cases hll : l < C.length
                      · obtain ⟨a9, o9, he9, _, z9⟩ := (RC.of_own Hrow.out).at hll
                        obtain ⟨q, hq, hqe⟩ := HCm.out _ (List.getElem_mem hll)
                        have Htk := Lib.hid (show C.take (l + 1) = C.take l ++ [(q : Int)] from by rw [List.take_succ_eq_append_getElem hll, hqe])
                        rw [hqe] at z9
                        subst he9
                        have z10 := HBT.out.cell hq
                        have z11 := HBT.out.free q
                        have Hset := Lib.hid (HBT.out.setM hq)
                        clear hqe
                        go_wp2
                        refine ⟨⟨l + 1, by go_num, by omega, Hset.out.1.congr fun r _ => ?_, HTc.out.trans Hset.out.2⟩, by simp [intOf]; omega⟩
                        rw [Htk.out]
                        unfold setM
                        by_cases e : r = q
                        · subst e; simp
                        · have : ¬ (r : Int) = (q : Int) := by omega
                          simp [e, this]
                      · have hlC : l = C.length := by omega
                        have dll : decide (l < C.length) = false := by simp; omega
                        have hBT := HBT.out
                        rw [hlC, List.take_length] at hBT
                        have HBT' := Lib.hid (hBT.congr (g := dnB (out ++ [C])) fun q _ => Hdn.out q)
                        have HOr := Lib.hid (HO4.out.keep (w' := wr) fun a arr t ha ht => Hkeep.out a arr t ha (by rcases ht with rfl | rfl <;> decide))
                        obtain ⟨gs, g1, g2⟩ := HOr.out.ex
                        have HlC := Lib.hid hlC
                        have b6 : Below wr.heap.size wr (wr.alloc (.cells #[.slice p10 C.length c10] 22)) := (Below.refl _ _).alloc (Nat.le_refl _) _
                        have n6 := heap_alloc_new wr (.cells #[.slice p10 C.length c10] 22)
                        have Ho6 := Lib.hid (ownsRow_below g1 b6 (Nat.le_refl _))
                        have hwr : w2.heap.size + 1 ≤ wr.heap.size := by
                          have h1 := HTc.out.size
                          have h2 := HD4.out.lt
                          omega
                        have Hbz := Lib.hid (show w2.heap.size + 1 ≤ (wr.alloc (.cells #[.slice p10 C.length c10] 22)).heap.size from Nat.le_trans hwr b6.size)
                        have Hrc := Lib.hid (show RC (wr.alloc (.cells #[.slice p10 C.length c10] 22)) 1 (some ⟨wr.heap.size, 0, none⟩) 1 [.slice p10 C.length c10] from RC.row rfl n6 (fun j u hu => by simpa using hu))
                        have Hb6 := Lib.hid b6
                        have hbd : out.length + 1 ≤ 67108864 := by omega
                        have hcb : cnt k (dnB out) ≤ 1000 := by omega
                        have Hg1 := Lib.hid g1; have Hg2 := Lib.hid g2
                        clear hBT hlC b6 n6 g1 g2 hwr
                        go_wp2_with (at_builtin; go_loud (refine wpList_append_ownrc rfl (.tmp 86) (.tmp 88) 23 rfl 22 (by kernel_rfl) slice_info rfl (by decide) (by decide) (w2.heap.size + 1) _ (some ⟨wr.heap.size, 0, none⟩) out.length 1 1 gs [.slice p10 C.length c10] Hbz.out (.slice po out.length co) rfl rfl Ho6.out Hrc.out (by simp [Value.oneCell']) hbd ?_); intro v8 w8 ho8 hf8; have HO8 := Lib.hid (HOr.out.push (I3.of_own Hrow.out) gs Hg1.out Hg2.out rfl hf8 ho8); have Hf8 := Lib.hid hf8; clear ho8 hf8)
                        have hBT8 : BT w8 w2.heap.size k (dnB (out ++ [C])) := (HBT'.out.below Hb6.out).at (Hf8.out.block _ (Nat.lt_of_lt_of_le HBT'.out.lt Hb6.out.size) (by simp) (fun e => by have := (Ho6.out.lt _ e).1; omega))
                        have hb8 : Below w2.heap.size w2 w8 := ((Hbo4.out.trans (HTc.out.below (Nat.le_refl _))).trans (Hb6.out.mono (Nat.le_of_lt HBT'.out.lt))).trans (Hf8.out.below (Nat.le_trans (Nat.le_of_lt HBT'.out.lt) Hb6.out.size) (by simp) fun g hg => by have := (Ho6.out.lt g hg).1; omega)
                        exact ⟨⟨out ++ [C], by rw [Hcnt.out]; go_num, by rw [Hcnt.out, List.length_append, List.length_singleton]; omega, HO8.out, hBT8, HT'.out, hb8⟩, by have := Hlt.out; simp [intOf]; omega⟩
        · have hck : cnt k (dnB out) = k := by omega
          rw [hck]
          have hall : ∀ i, i < E.length → inn out i := fun i hi => by
            apply Classical.byContradiction
            intro hno
            have : cnt k (dnB out) < cnt k (fun _ => true) := cnt_lt (fun _ _ _ => rfl) ⟨i, by rw [Hn.out]; exact hi, by cases hd : dnB out i; rfl; exact absurd (dnB_iff.1 hd) hno, rfl⟩
            rw [cnt_all] at this; omega
          have Hall := Lib.hid hall
          have dkk : decide (k < k) = false := by simp
          clear hall hck hlt hcl
          go_wp2
          go_ret
          exact ⟨out, po, co, rfl, Hgs.out, HT.out, Hall.out, Hw2.out.trans (Hb.out.mono Hw2.out.size)⟩
end Go.Proofs.Yteejlibiidiibaa
