/-
  Walks: DiagramWays.
-/
import Derived.Test.YtkppcibffbnhoaaK3
import Derived.Test.YtkppcibffbnhoaaH2
namespace Go.Proofs.Ytkppcibffbnhoaa
open Go.RowKit
set_option maxRecDepth 100000

theorem eval_was (v : Value) (t : T) (a : Nat) (b : Bool) (ha : a < 18446744073709551616) (w : World) (h : DV w v t) (hb : t.ev (bitsF a) = b) : Calls Try.prog 17 #[v, .int .u64 a] w (ER b w) := by
  have := evaluate_any v t a ha w h
  rw [hb] at this
  exact this
set_option maxHeartbeats 32000000 in
theorem wayslaw_walk (P1 : Option Addr) (n1 c1 : Nat) (ps1 : List IP) (a : Nat) (haa : a < 18446744073709551616) (w : World) (h1 : PS w P1 n1 ps1) :
    Calls Try.prog 6 #[.slice P1 n1 c1, .int .u64 a] w (ER true w) := by
  have hd1 := (drawn_any P1 n1 c1 ps1 w h1).mono fun _ _ => DR.parts
  clear h1
  have Haa := Lib.hid haa; clear haa
  go_enter Try.func6, Try.ntmps6
  go_upto_region 2 with (go_at_call 10; refine hd1.mono ?_; rintro e w1 ⟨p1, m1, k1, r1, b1, rfl, q1, ht1⟩; have Q1 := Lib.hid q1; have HT1 := Lib.hid ht1; clear q1 ht1)
  have hal1 : Below w1.heap.size w1 (w1.alloc (.cells #[.slice p1 m1 k1, .int .i64 r1] 24)) := (Below.refl _ _).alloc (Nat.le_refl _) _
  have hn1 := heap_alloc_new w1 (.cells #[.slice p1 m1 k1, .int .i64 r1] 24)
  generalize w1.alloc (.cells #[.slice p1 m1 k1, .int .i64 r1] 24) = wa at *
  have A1 := Lib.hid hal1; have Hrd := Lib.hid hn1; have B2 := Lib.hid (Q1.out.step hal1)
  clear hal1 hn1 hd1
  cases b1
  case false => go_wp2_with (go_at_call 9; refine (awake_any _).mono ?_; rintro e w9 ⟨rfl, q9⟩; have Q9 := Lib.hid q9; clear q9)
                go_ret
                exact ⟨rfl, B2.out.step Q9.out⟩
  obtain ⟨ta, da, -⟩ := HT1.out rfl
  have oa := da.ok
  have Va0 := Lib.hid (da.below A1.out)
  obtain ⟨ws, hws⟩ : ∃ ws, ws = waysT ta [] [] := ⟨_, rfl⟩
  have Hlit := Lib.hid (show ∀ p ∈ ws, litsI p.1 ∧ litsI p.2 by rw [hws]; exact ways_lits oa [] [] (fun k h => by simp at h) (fun k h => by simp at h))
  have Hlen := Lib.hid (show ∀ p ∈ ws, p.1.length ≤ 12 ∧ p.2.length ≤ 12 by rw [hws]; intro p hp; have := ways_lens oa [] [] p hp; simp at this; omega)
  have hcnt : ws.countP (holdsP a) = if ta.ev (bitsF a) then 1 else 0 := by rw [hws, ways_count]; simp [posB, negB]
  have hwl : ws.length ≤ 4096 := by
    have h1 := ways_len oa [] []
    have h2 : 2 ^ (12 - ta.lit) ≤ 2 ^ 12 := Nat.pow_le_pow_right (by omega) (by omega)
    rw [hws]; omega
  have hp19 := fun v wx (h : DV wx v ta) => paths_any v ta wx h
  have hp20 := fun v wx (h : DV wx v ta) => paths20_any v ta wx h
  rw [← hws] at hp19 hp20
  have HP19 := Lib.hid hp19; have HP20 := Lib.hid hp20; have Hcnt := Lib.hid hcnt; have Hwl := Lib.hid hwl
  clear hp19 hp20 hcnt hwl hws da HT1 Q1 A1
  go_upto_region 4 with fail
  have Y0d := Lib.hid (show wa.drew.cell? ⟨w1.heap.size, 0, none⟩ = _ from (cells2 Hrd.out).1)
  have Ld := Lib.hid (show w1.heap.size < wa.drew.heap.size from heap_lt Hrd.out)
  have Rd := Lib.hid (show wa.drew.heap[w1.heap.size]? = _ from Hrd.out)
  have B0 := Lib.hid (show Below wa.heap.size wa wa.drew from (Below.refl _ _).drew)
  obtain ⟨z0d, z1d, -⟩ := cells2 Hrd.out
  go_upto_region 5 with (first
    | ((with_reducible refine Lex.at_finK ?_); refine LexK.finE_on (by kernel_rfl) (by repeat first | exact LexK.finL_nil | refine LexK.finL_none rfl ?_ | refine LexK.finL_skip (by decide +kernel) ?_ | refine LexK.finL_take rfl Ld.out Y0d.out ?_) ?_)
    | ((with_reducible refine Lex.at_region ?_); refine LexK.wp_region_lexE (fun x => x < wa.drew.heap.size) (by kernel_rfl) (by decide +kernel) ?_)
    | ((with_reducible refine Lex.at_wpX ?_); with_reducible refine LexK.wpX_plain (by decide +kernel) ?_)
    | ((with_reducible refine Lex.at_wpX ?_); with_reducible refine LexK.wpX_call ?_)
    | ((with_reducible refine Lex.at_wpX ?_); with_reducible refine LexK.wpX_nil ?_)
    | ((with_reducible refine Lex.at_ext ?_); with_reducible refine LexK.ext_on Hext.out ?_)
    | (go_at_call 19; ((with_reducible refine (HP19.out _ _ (Va0.out.below B0.out)).mono ?_); rintro e x0 ⟨Pv0, nv0, kv0, rfl, d, q⟩;  have Hd0 := Lib.hid d; have Hext := Lib.hid (LexK.Ext.of_below (Kp := fun x => x < wa.drew.heap.size) q (Nat.le_refl _)); have B1 := Lib.hid (B0.out.step q); have q0 : Below wa.drew.heap.size wa.drew x0 := q; have Q0 := Lib.hid q0; obtain ⟨u0d, t0d, -⟩ := cells2 ((q0.block _ Ld.out).trans Rd.out); clear d q q0))
    | (go_at_call 20; ((with_reducible refine (HP20.out _ _ (Va0.out.below B1.out)).mono ?_); rintro e x1 ⟨Pv1, nv1, kv1, rfl, d, q⟩; have Hd0 := Lib.hid (Hd0.out.below q); have Hd1 := Lib.hid d; have Hext := Lib.hid (LexK.Ext.of_below (Kp := fun x => x < wa.drew.heap.size) q (Nat.le_refl _)); have B2' := Lib.hid (B1.out.step q); have q0 : Below wa.drew.heap.size wa.drew x1 := Q0.out.trans (q.mono Q0.out.size); have Q1 := Lib.hid q0; obtain ⟨u1d, t1d, -⟩ := cells2 ((q0.block _ Ld.out).trans Rd.out); clear d q q0)))
  have Va := Lib.hid (Va0.out.below B2'.out)
  have Hrd2 := Lib.hid ((B2'.out.block _ (heap_lt Hrd.out)).trans Hrd.out)
  have B6 := Lib.hid (B2.out.step B2'.out)
  obtain rfl := Hd0.out.len
  obtain rfl := Hd1.out.len
  clear B2' B0 B1 Hrd Va0 B2 z0d z1d
  have f5 : ((ws.length : Int) != (ws.length : Int)) = false := by simp
  go_wp2
  go_loopw [10, 9] (fun i c wr => ∃ (k : Nat), i = .int .i64 k ∧ k ≤ ws.length ∧ c = .int .i64 ((ws.take k).countP (holdsP a) : Nat) ∧ Below x1.heap.size x1 wr) (fun i _ _ => ws.length - (intOf i).toNat)
  case atStart => exact ⟨0, rfl, by omega, rfl, Below.refl _ _⟩
  clear f5
  case round =>
    obtain ⟨k, rfl, hk, hc, hb⟩ := hrel
    have Hb := Lib.hid hb; clear hb
    by_cases hlt : k < ws.length
    · have hP0 := Hd0.out.below Hb.out
      have hP1 := Hd1.out.below Hb.out
      obtain ⟨aa, oo, v1, v2, rfl, hla, c0, c1', i1, i2⟩ := hP0.at' k hlt
      obtain ⟨ab, ob, v3, v4, rfl, hlb, c2, c3, i3, i4⟩ := hP1.at' k hlt
      obtain ⟨l1, l2⟩ := Hlit.out _ (List.getElem_mem hlt)
      obtain ⟨b1, b2⟩ := Hlen.out _ (List.getElem_mem hlt)
      have hcn : (ws.take (k + 1)).countP (holdsP a) = (ws.take k).countP (holdsP a) + if holdsP a ws[k] then 1 else 0 := by
        rw [List.take_succ_eq_append_getElem hlt, List.countP_append, List.countP_cons, List.countP_nil]; simp
      have hle : (ws.take k).countP (holdsP a) ≤ k := Nat.le_trans List.countP_le_length (by simp; omega)
      have hwl := Hwl.out
      generalize (ws.take k).countP (holdsP a) = cnt at *
      generalize ws[k] = x at *
      obtain ⟨pos, neg⟩ := x
      dsimp only at i1 i2 i3 i4 l1 l2 b1 b2
      obtain ⟨q1, d1, rfl, -, -⟩ := id i1
      obtain ⟨q2, d2, rfl, -, -⟩ := id i2
      obtain ⟨q3, d3, rfl, -, -⟩ := id i3
      obtain ⟨q4, d4, rfl, -, -⟩ := id i4
      have hh := fun wx (hx : Below wr.heap.size wr wx) => holdsu_any _ _ pos neg a Haa.out wx (i1.below hx) (i2.below hx) l1 l2 (by omega) (by omega)
      obtain ⟨b, hbb⟩ : ∃ b, holdsP a (pos, neg) = b := ⟨_, rfl⟩
      rw [hbb] at hh hcn
      have Hh := Lib.hid hh; have Hcn := Lib.hid hcn
      have hi1 := fun wx (hx : Below wr.heap.size wr wx) => ints_same _ _ pos wx (i1.below hx) (i3.below hx) (by omega)
      have hi2 := fun wx (hx : Below wr.heap.size wr wx) => ints_same _ _ neg wx (i2.below hx) (i4.below hx) (by omega)
      have Hi1 := Lib.hid hi1; have Hi2 := Lib.hid hi2
      have Y0 := Lib.hid (show wr.drew.cell? ⟨aa, oo + k * 2, none⟩ = _ from c0)
      have Y1 := Lib.hid (show wr.drew.cell? ⟨aa, oo + k * 2 + 1, none⟩ = _ from c1')
      have Y2 := Lib.hid (show wr.drew.cell? ⟨ab, ob + k * 2, none⟩ = _ from c2)
      have Y3 := Lib.hid (show wr.drew.cell? ⟨ab, ob + k * 2 + 1, none⟩ = _ from c3)
      have La := Lib.hid (show aa < wr.drew.heap.size from hla)
      have Lb := Lib.hid (show ab < wr.drew.heap.size from hlb)
      have BD := Lib.hid (show Below wr.heap.size wr wr.drew from (Below.refl _ _).drew)
      subst hc
      clear hh hcn hi1 hi2 i1 i2 i3 i4 l1 l2 hP0 hP1 hbb
      go_upto_region 13 with (first
        | ((with_reducible refine Lex.at_finK ?_); refine LexK.finE_on (by kernel_rfl) (by repeat first | exact LexK.finL_nil | refine LexK.finL_none rfl ?_ | refine LexK.finL_skip (by decide +kernel) ?_ | refine LexK.finL_take rfl La.out Y0.out ?_ | refine LexK.finL_take rfl La.out Y1.out ?_ | refine LexK.finL_take rfl Lb.out Y2.out ?_ | refine LexK.finL_take rfl Lb.out Y3.out ?_) ?_)
        | ((with_reducible refine Lex.at_region ?_); refine LexK.wp_region_lexE (fun x => x < wr.drew.heap.size) (by kernel_rfl) (by decide +kernel) ?_)
        | ((with_reducible refine Lex.at_wpX ?_); with_reducible refine LexK.wpX_plain (by decide +kernel) ?_)
        | ((with_reducible refine Lex.at_wpX ?_); with_reducible refine LexK.wpX_call ?_)
        | ((with_reducible refine Lex.at_wpX ?_); with_reducible refine LexK.wpX_nil ?_)
        | ((with_reducible refine Lex.at_ext ?_); with_reducible refine LexK.ext_on (ext_low Hbe.out) ?_)
        | (go_at_call 21; ((with_reducible refine (Hi1.out _ BD.out).mono ?_); rintro e w5 ⟨rfl, q⟩; have Hbe := Lib.hid (show Below wr.drew.heap.size wr.drew w5 from q); have B5 := Lib.hid (BD.out.step q); obtain ⟨e0, e1, e2, e3⟩ := (show w5.cell? ⟨aa, oo + k * 2, none⟩ = _ ∧ w5.cell? ⟨aa, oo + k * 2 + 1, none⟩ = _ ∧ w5.cell? ⟨ab, ob + k * 2, none⟩ = _ ∧ w5.cell? ⟨ab, ob + k * 2 + 1, none⟩ = _ from ⟨(q.cell (p := ⟨aa, _, none⟩) La.out).trans Y0.out, (q.cell (p := ⟨aa, _, none⟩) La.out).trans Y1.out, (q.cell (p := ⟨ab, _, none⟩) Lb.out).trans Y2.out, (q.cell (p := ⟨ab, _, none⟩) Lb.out).trans Y3.out⟩); clear q))
        | (go_at_call 21; ((with_reducible refine (Hi2.out _ B5.out).mono ?_); rintro e w6 ⟨rfl, q⟩; have B6' := Lib.hid (B5.out.step q); have Hbt := Lib.hid (show Below wr.drew.heap.size wr.drew w6 from Hbe.out.trans (q.mono Hbe.out.size)); have Hbe := Lib.hid (q.mono Hbe.out.size); clear q)))
      clear c0 c1' c2 c3 e0 e1 e2 e3
      have e0 := (Hbt.out.cell (p := ⟨aa, _, none⟩) La.out).trans Y0.out
      have e1 := (Hbt.out.cell (p := ⟨aa, _, none⟩) La.out).trans Y1.out
      cases b with
      | true =>
        go_wp2_with (go_at_call 22; refine (Hh.out _ B6'.out).mono ?_; rintro e w7 ⟨rfl, q7⟩; have Q7 := Lib.hid q7; clear q7)
        exact ⟨⟨k + 1, by go_num, by omega, by rw [Hcn.out]; simp, Hb.out.step (B6'.out.step Q7.out)⟩, by simp [intOf]; omega⟩
      | false =>
        go_wp2_with (go_at_call 22; refine (Hh.out _ B6'.out).mono ?_; rintro e w7 ⟨rfl, q7⟩; have Q7 := Lib.hid q7; clear q7)
        exact ⟨⟨k + 1, by go_num, by omega, by rw [Hcn.out]; simp, Hb.out.step (B6'.out.step Q7.out)⟩, by simp [intOf]; omega⟩
    · obtain rfl : k = ws.length := by omega
      rw [List.take_length, Hcnt.out] at hc
      obtain ⟨eA, ea⟩ : ∃ b, ta.ev (bitsF a) = b := ⟨_, rfl⟩
      rw [ea] at hc
      have hev := eval_was _ ta a eA Haa.out _ (Va.out.below Hb.out) ea
      have Hev := Lib.hid hev
      obtain ⟨z0, z1, -⟩ := cells2 ((Hb.out.block _ (heap_lt Hrd2.out)).trans Hrd2.out)
      clear hev ea
      cases eA
      all_goals
        simp at hc
        subst hc
        go_wp2_with (first
          | (go_at_call 17; refine Hev.out.mono ?_; rintro e w7 ⟨rfl, q7⟩; have Q7 := Lib.hid q7; clear q7)
          | (go_at_call 9; refine (awake_any _).mono ?_; rintro e w9 ⟨rfl, q9⟩; have Q9 := Lib.hid q9; clear q9))
        go_ret
        exact ⟨rfl, B6.out.step (Hb.out.step (Q7.out.step Q9.out))⟩
end Go.Proofs.Ytkppcibffbnhoaa
