/-
  Walks: the document's records.
-/
import Derived.Test.YtmflngpgmmgohaaTd
namespace Go.Proofs.Ytmflngpgmmgohaa
open Go.RowKit

def refRec (S : ByteArray) (p : Nat) : Option (Rec × Nat) :=
  match textRef S p with
  | none => none
  | some (q, n) =>
    if (openV (S.extract q (q + n))).2 = 0 then
      match textRef (openV (S.extract q (q + n))).1 0 with
      | none => none
      | some (q1, n1) =>
        match textRef (openV (S.extract q (q + n))).1 (q1 + n1) with
        | none => none
        | some (q2, n2) => if (openV (S.extract q (q + n))).1.size ≤ q2 + n2 then some (((openV (S.extract q (q + n))).1.extract q1 (q1 + n1), (openV (S.extract q (q + n))).1.extract q2 (q2 + n2)), q + n) else none
    else none

theorem ext_all (o : ByteArray) : o.extract 0 o.size = o := by simp
theorem ext_nil {o : ByteArray} {a : Nat} (h : a ≤ o.size) : o.extract a o.size = ⟨#[]⟩ ↔ o.size ≤ a := by
  constructor
  · intro h1
    have := congrArg ByteArray.size h1
    simp at this
    have e : (ByteArray.mk #[]).size = 0 := rfl
    omega
  · intro h1
    have : a = o.size := by omega
    subst this
    apply ByteArray.ext
    simp
theorem refRec_rec {S : ByteArray} {p : Nat} (hp : p ≤ S.size) (hS : S.size ≤ 1048576) :
    match refRec S p with
    | some (r, p') => recV (S.extract p S.size) = some (r, S.extract p' S.size) ∧ p < p' ∧ p' ≤ S.size
    | none => recV (S.extract p S.size) = none := by
  unfold refRec recV
  rcases h1 : textRef S p with _ | ⟨q, n⟩
  · rw [textRef_none hp hS h1]
  · obtain ⟨a1, a2, a3⟩ := textRef_le hp hS h1
    rw [a3]
    dsimp only
    have hos : (openV (S.extract q (q + n))).1.size ≤ 1048576 := by
      have := openV_size (S.extract q (q + n))
      have := extract_size_le S q (q + n)
      omega
    by_cases h2 : (openV (S.extract q (q + n))).2 = 0
    · rw [if_pos h2, if_pos h2]
      generalize (openV (S.extract q (q + n))).1 = o at *
      rcases h3 : textRef o 0 with _ | ⟨q1, n1⟩
      · have := textRef_none (Nat.zero_le _) hos h3
        rw [ext_all] at this
        rw [this]
      · obtain ⟨b1, b2, b3⟩ := textRef_le (Nat.zero_le _) hos h3
        rw [ext_all] at b3
        rw [b3]
        dsimp only
        rcases h4 : textRef o (q1 + n1) with _ | ⟨q2, n2⟩
        · rw [textRef_none b1 hos h4]
        · obtain ⟨c1, c2, c3⟩ := textRef_le b1 hos h4
          rw [c3]
          dsimp only
          by_cases h5 : o.size ≤ q2 + n2
          · rw [if_pos h5, if_pos ((ext_nil c1).2 h5)]
            exact ⟨rfl, by omega, a1⟩
          · rw [if_neg h5, if_neg (fun h => h5 ((ext_nil c1).1 h))]
    · rw [if_neg h2, if_neg h2]

theorem below_upd {B b : Nat} {o : Obj} {w w1 w2 : World} (h : Below B w w1) (hu : Upd b o w1 w2) (hb : B ≤ b) : Below B w w2 :=
  ⟨hu.os.trans h.os, hu.tape.trans h.tape, hu.output.trans h.output, by rw [hu.size]; exact h.size, fun i hi => (hu.other i (by omega)).trans (h.block i hi)⟩

/-- What the loop of ReadRecords has. -/
structure RRI (S : ByteArray) (w : World) (v : Value) (l : List Rec) (p : Nat) (wr : World) : Prop where
  le : p ≤ S.size
  ch : Chain S l (S.extract p S.size)
  own : wr.ownsRow w.heap.size 44 2 v l.length (recCells l)
  below : Below w.heap.size w wr
theorem RRI.start (S : ByteArray) (w : World) : RRI S w (.slice none 0 0) [] 0 w := ⟨Nat.zero_le _, by rw [ext_all]; exact .nil, World.ownsRow_nil _ _ _ _, Below.refl _ _⟩
theorem RRI.out {S : ByteArray} {w wr w' : World} {v : Value} {l : List Rec} {p : Nat} (h : RRI S w v l p wr) (hb : Below wr.heap.size wr w') : w'.ownsRow w.heap.size 44 2 v l.length (recCells l) ∧ Below w.heap.size w w' :=
  ⟨ownsRow_below h.own hb (Nat.le_refl _), h.below.trans (hb.mono h.below.size)⟩
theorem wpList_append_recB {ops : Array Oper} {rest : List Oper} {o : Oper} {a : Act} {Q : Exit → Act → World → Prop} (hgd : o.guard = none) (s x : Operand) (t : TypeId)
    (ho : o.op = .call { callee := .builtin .append, args := #[s, x], argTypes := #[t, t] }) (ht : Try.prog.underlying t = some (.slice 44))
    (B : Nat) (w0 : World) (g : Nat) (hg : g = w0.heap.size) (hB : B ≤ w0.heap.size) (k d : ByteArray) (v : Value) (n : Nat) (xs : List Value) (hs : a.eval s = v) (hown : w0.ownsRow B 44 2 v n xs) (hn : n ≤ 1048576)
    (hx : a.eval x = .slice (some ⟨g, 0, none⟩) 1 1)
    (h : ∀ v' w', w'.ownsRow B 44 2 v' (n + 1) (xs ++ [.string k, .string d]) → (∀ w, Below B w w0 → Below B w w') → (∀ i, i < w0.heap.size → some i ≠ v.ownBlock → w'.heap[i]? = w0.heap[i]?) → wpList Try.prog ops Q rest (a.put o.dst v') w') :
    wpList Try.prog ops Q (o :: rest) a (w0.alloc (.cells #[.string k, .string d] 44)) := by
  subst hg
  obtain ⟨i0, hi0, hz0, hz1, hz2⟩ := info_parts rec_info
  refine wpList_append_own _ hgd s x t ho B 44 i0 _ 2 32 ht hi0 hz0 hz1 hz2 rfl (by decide) v n xs hs (hown.alloc _) ⟨w0.heap.size, 0, none⟩ 1 1 [.string k, .string d] hx rfl ?_ ?_ (by unfold maxLen; omega) (by omega) (by simp; omega) ?_
  · intro j u hj
    have hc : ∀ i, (w0.alloc (.cells #[.string k, .string d] 44)).cell? ⟨w0.heap.size, i, none⟩ = (#[Value.string k, .string d] : Array Value)[i]? := fun i => cell_of_row _ _ _ _ _ _ (heap_alloc_new _ _)
    match j, hj with
    | 0, hj => simp at hj; subst hj; exact hc 0
    | 1, hj => simp at hj; subst hj; exact hc 1
    | (j + 2), hj => simp at hj
  · intro u hu; simp at hu; rcases hu with rfl | rfl <;> rfl
  · intro v' w' ho' hg' _
    exact h v' w' ho' (fun w hw => (hw.alloc hB _).grown hg' (by simp; omega) (fun q hq => (hown.lt q hq).1)) (fun i hi hne => (hg'.block i (by simp; omega) hne).trans (heap_alloc_old _ _ hi))
theorem rlt {rb : Nat} {w2 w3 w4 w5 : World} {o1 o2 o3 o4 : Obj} (h : rb < w2.heap.size) (h3 : Upd w2.heap.size o2 (w2.alloc o1) w3) (h4 : Upd w2.heap.size o3 w3 w4) (h5 : Upd w2.heap.size o4 w4 w5) : rb < w5.heap.size := by
  rw [h5.size, h4.size, h3.size]; simp; omega
theorem rkeep {rb : Nat} {w2 w3 w4 w5 : World} {o1 o2 o3 o4 : Obj} (h : rb < w2.heap.size) (h3 : Upd w2.heap.size o2 (w2.alloc o1) w3) (h4 : Upd w2.heap.size o3 w3 w4) (h5 : Upd w2.heap.size o4 w4 w5) : w5.heap[rb]? = w2.heap[rb]? := by
  rw [h5.other _ (by omega), h4.other _ (by omega), h3.other _ (by omega), heap_alloc_old _ _ h]
theorem rne {wr : World} {B n : Nat} {v : Value} {xs : List Value} (h : wr.ownsRow B 44 2 v n xs) : some wr.heap.size ≠ v.ownBlock := fun e => by
  have := (h.lt _ e.symm).2; omega
theorem RRI.len {S : ByteArray} {w wr : World} {v : Value} {l : List Rec} {p : Nat} (h : RRI S w v l p wr) (hS : S.size ≤ 1048576) : l.length ≤ 1048576 := by have := h.ch.le; omega

set_option maxRecDepth 100000 in
set_option maxHeartbeats 16000000 in
theorem refread_any (S : ByteArray) (hS : S.size ≤ 1048576) (w : World) :
    Calls Try.prog 32 #[.string S] w fun e w' => ∃ (v : Value) (l : List Rec) (p : Nat), e = .returned (.tuple #[v, .int .i64 p]) ∧ p ≤ S.size ∧ Chain S l (S.extract p S.size) ∧ recV (S.extract p S.size) = none ∧ w'.ownsRow w.heap.size 44 2 v l.length (recCells l) ∧ Below w.heap.size w w' := by
  go_enter Try.func32, Try.ntmps32
  go_wp2
  go_loopw [4, 5] (fun v i wr => ∃ (l : List Rec) (p : Nat), i = .int .i64 p ∧ RRI S w v l p wr) (fun _ i _ => S.size - (intOf i).toNat)
  case atStart => exact ⟨[], 0, rfl, RRI.start S w⟩
  case round =>
    obtain ⟨l, p, rfl, hri⟩ := hrel
    have hle := hri.le
    have hlen := hri.len hS
    have hrr := refRec_rec hle hS
    have Hri := Lib.hid hri; clear hri
    by_cases h0 : S.size ≤ p
    · have hn : recV (S.extract p S.size) = none := by
        have : S.extract p S.size = ⟨#[]⟩ := (ext_nil hle).2 h0
        rw [this]; rfl
      have Hn := Lib.hid hn; clear hn hrr
      go_wp2_with (first
        | (with_reducible refine Lex.wp_region_lex (by kernel_rfl) (by decide +kernel) ?_)
        | (with_reducible refine Lex.fin_on (by kernel_rfl) ?_))
      go_ret2
      exact ⟨_, l, p, rfl, hle, Hri.out.ch, Hn.out, Hri.out.own, Hri.out.below⟩
    · have hT := rtext_ok wr.heap.size S p (wr.alloc (inObj S p 0)) (heap_alloc_new _ _) hS hle
      have hb0 : Below wr.heap.size wr (wr.alloc (inObj S p 0)) := (Below.refl _ _).alloc (Nat.le_refl _) _
      have hsz0 : wr.heap.size < (wr.alloc (inObj S p 0)).heap.size := by simp
      have Hb0 := Lib.hid hb0; clear hb0
      have Hsz0 := Lib.hid hsz0; clear hsz0
      unfold inObj at hT
      rcases h1 : textRef S p with _ | ⟨q, n⟩
      · have hr : refRec S p = none := by unfold refRec; rw [h1]
        rw [hr] at hrr
        have Hn := Lib.hid hrr; clear hrr hr
        rw [h1] at hT; simp only [tR] at hT
        have hO := fun w => refopen_any ⟨#[]⟩ (by decide) w
        rw [show openV ⟨#[]⟩ = (⟨#[]⟩, 26) from rfl] at hO
        clear h1
        go_wp2_with (first
        | (with_reducible refine Lex.wp_region_lex (by kernel_rfl) (by decide +kernel) ?_)
        | (with_reducible refine Lex.fin_on (by kernel_rfl) ?_)
        | (go_at_call 60; refine hT.mono ?_; rintro r w1 ⟨rfl, p1, e1, he1, hU1⟩; have HB1 := Lib.hid (below_upd Hb0.out hU1 (Nat.le_refl _)))
        | (go_at_call 59; refine (hO _).mono ?_; rintro r w2 ⟨rfl, hb2⟩; have hd : (e1 != 0) = true := (by simpa using he1); obtain ⟨c0, c1, c2, fz⟩ := cells3 ((hb2.block _ (Nat.lt_of_lt_of_le Hsz0.out (Nat.le_of_eq hU1.size.symm))).trans hU1.blk); have HB2 := Lib.hid (HB1.out.trans (hb2.mono HB1.out.size))))
        go_ret2
        exact ⟨_, l, p, rfl, hle, Hri.out.ch, Hn.out, Hri.out.out HB2.out⟩
      · obtain ⟨a1, a2, a3⟩ := textRef_le hle hS h1
        clear a3
        rw [h1] at hT; simp only [tR] at hT
        have hrr' := hrr
        unfold refRec at hrr'
        rw [h1] at hrr'
        dsimp only at hrr'
        clear hrr h1
        have hbz : (S.extract q (q + n)).size ≤ 1048576 := Nat.le_trans (extract_size_le _ _ _) hS
        generalize S.extract q (q + n) = bd at *
        have hO := fun w => refopen_any bd hbz w
        have hoz := Nat.le_trans (openV_size bd) hbz
        generalize (openV bd).1 = o at *
        generalize (openV bd).2 = c at *
        by_cases hc : c = 0
        case neg =>
          rw [if_neg hc] at hrr'
          have Hn := Lib.hid hrr'; clear hrr'
          have hd : (c != 0) = true := by simpa using hc
          go_wp2_with (first
          | (with_reducible refine Lex.wp_region_lex (by kernel_rfl) (by decide +kernel) ?_)
          | (with_reducible refine Lex.fin_on (by kernel_rfl) ?_)
          | (go_at_call 60; refine hT.mono ?_; rintro r w1 ⟨rfl, hU1⟩; have HB1 := Lib.hid (below_upd Hb0.out hU1 (Nat.le_refl _)))
          | (go_at_call 59; refine (hO _).mono ?_; rintro r w2 ⟨rfl, hb2⟩; obtain ⟨c0, c1, c2, fz⟩ := cells3 ((hb2.block _ (Nat.lt_of_lt_of_le Hsz0.out (Nat.le_of_eq hU1.size.symm))).trans hU1.blk); have HB2 := Lib.hid (HB1.out.trans (hb2.mono HB1.out.size))))
          go_ret2
          exact ⟨_, l, p, rfl, hle, Hri.out.ch, Hn.out, Hri.out.out HB2.out⟩
        case pos =>
          rw [if_pos hc] at hrr'
          subst hc
          have hX : ∀ w2 : World, Calls Try.prog 60 #[.pointer (some ⟨w2.heap.size, 0, none⟩)] (w2.alloc (.cells #[.string o, .int .i64 0, .int .i64 0] 86)) fun r w' => tR o w2.heap.size (textRef o 0) r (w2.alloc (inObj o 0 0)) w' := fun w2 => rtext_ok w2.heap.size o 0 (w2.alloc (inObj o 0 0)) (heap_alloc_new _ _) hoz (Nat.zero_le _)
          rcases h3 : textRef o 0 with _ | ⟨q1, n1⟩
          · rw [h3] at hrr'
            dsimp only at hrr'
            have Hn := Lib.hid hrr'; clear hrr'
            simp only [h3, tR] at hX
            clear h3
            go_wp2_with (first
            | (with_reducible refine Lex.wp_region_lex (by kernel_rfl) (by decide +kernel) ?_)
            | (with_reducible refine Lex.fin_on (by kernel_rfl) ?_)
            | (go_at_call 60; first
              | (with_reducible refine hT.mono ?_; rintro r w1 ⟨rfl, hU1⟩; have HB1 := Lib.hid (below_upd Hb0.out hU1 (Nat.le_refl _)))
              | (with_reducible refine (hX w2).mono ?_; rintro r w3 ⟨rfl, p3, e3, he3, hU3⟩)
              | (refine (rtext_bad w2.heap.size o p3 e3 _ hU3.blk he3).mono ?_; rintro r w4 ⟨rfl, hU4⟩; have hd : (e3 != 0) = true := (by simpa using he3); have hi5 : (if p3 < o.size ∧ e3 = 0 then (5 : Int) else e3) = e3 := (if_neg fun h => he3 h.2); have hE := end_any w2.heap.size o p3 e3 w4 hU4.blk hoz; rw [hi5] at hE))
            | (go_at_call 59; refine (hO _).mono ?_; rintro r w2 ⟨rfl, hb2⟩; have Hr2 := Lib.hid ((hb2.block _ (Nat.lt_of_lt_of_le Hsz0.out (Nat.le_of_eq hU1.size.symm))).trans hU1.blk); obtain ⟨c0, c1, c2, fz⟩ := cells3 Hr2.out; have HB2 := Lib.hid (HB1.out.trans (hb2.mono HB1.out.size)); have HX := Lib.hid (Nat.lt_of_lt_of_le (Nat.lt_of_lt_of_le Hsz0.out (Nat.le_of_eq hU1.size.symm)) hb2.size))
            | (go_at_call 61; refine (hE).mono ?_; rintro r w5 ⟨rfl, hU5⟩; obtain ⟨f0, f1, f2, fz5⟩ := cells3 hU5.blk))
            go_ret2
            have HB5 := below_upd (below_upd (below_upd (HB2.out.alloc HB2.out.size (inObj o 0 0)) hU3 HB2.out.size) hU4 HB2.out.size) hU5 HB2.out.size
            exact ⟨_, l, p, rfl, hle, Hri.out.ch, Hn.out, Hri.out.out HB5⟩
          · obtain ⟨b1, b2, b3⟩ := textRef_le (Nat.zero_le _) hoz h3
            clear b3
            rw [h3] at hrr'
            dsimp only at hrr'
            simp only [h3, tR] at hX
            clear h3
            have hY := fun (w2 w3 : World) hb => rtext_ok w2.heap.size o (q1 + n1) w3 hb hoz b1
            rcases h4 : textRef o (q1 + n1) with _ | ⟨q2, n2⟩
            · rw [h4] at hrr'
              dsimp only at hrr'
              have Hn := Lib.hid hrr'; clear hrr'
              simp only [h4, tR] at hY
              clear h4
              go_wp2_with (first
              | (with_reducible refine Lex.wp_region_lex (by kernel_rfl) (by decide +kernel) ?_)
              | (with_reducible refine Lex.fin_on (by kernel_rfl) ?_)
              | (go_at_call 60; first
                | (with_reducible refine hT.mono ?_; rintro r w1 ⟨rfl, hU1⟩; have HB1 := Lib.hid (below_upd Hb0.out hU1 (Nat.le_refl _)))
                | (with_reducible refine (hX w2).mono ?_; rintro r w3 ⟨rfl, hU3⟩)
                | (refine (hY w2 _ hU3.blk).mono ?_; rintro r w4 ⟨rfl, p4, e4, he4, hU4⟩; have hd : (e4 != 0) = true := (by simpa using he4); have hi5 : (if p4 < o.size ∧ e4 = 0 then (5 : Int) else e4) = e4 := (if_neg fun h => he4 h.2); have hE := end_any w2.heap.size o p4 e4 w4 hU4.blk hoz; rw [hi5] at hE))
              | (go_at_call 59; refine (hO _).mono ?_; rintro r w2 ⟨rfl, hb2⟩; have Hr2 := Lib.hid ((hb2.block _ (Nat.lt_of_lt_of_le Hsz0.out (Nat.le_of_eq hU1.size.symm))).trans hU1.blk); obtain ⟨c0, c1, c2, fz⟩ := cells3 Hr2.out; have HB2 := Lib.hid (HB1.out.trans (hb2.mono HB1.out.size)); have HX := Lib.hid (Nat.lt_of_lt_of_le (Nat.lt_of_lt_of_le Hsz0.out (Nat.le_of_eq hU1.size.symm)) hb2.size))
              | (go_at_call 61; refine (hE).mono ?_; rintro r w5 ⟨rfl, hU5⟩; obtain ⟨f0, f1, f2, fz5⟩ := cells3 hU5.blk))
              go_ret2
              have HB5 := below_upd (below_upd (below_upd (HB2.out.alloc HB2.out.size (inObj o 0 0)) hU3 HB2.out.size) hU4 HB2.out.size) hU5 HB2.out.size
              exact ⟨_, l, p, rfl, hle, Hri.out.ch, Hn.out, Hri.out.out HB5⟩
            · obtain ⟨d1, d2, d3⟩ := textRef_le b1 hoz h4
              clear d3
              rw [h4] at hrr'
              dsimp only at hrr'
              simp only [h4, tR] at hY
              clear h4
              have hE := fun (w2 w4 : World) hb => end_any w2.heap.size o (q2 + n2) 0 w4 hb hoz
              by_cases h5 : o.size ≤ q2 + n2
              case neg =>
                rw [if_neg h5] at hrr'
                have Hn := Lib.hid hrr'; clear hrr'
                have hi5 : (if q2 + n2 < o.size ∧ (0 : Int) = 0 then (5 : Int) else 0) = 5 := if_pos ⟨by omega, rfl⟩
                rw [hi5] at hE
                go_wp2_with (first
                | (with_reducible refine Lex.wp_region_lex (by kernel_rfl) (by decide +kernel) ?_)
                | (with_reducible refine Lex.fin_on (by kernel_rfl) ?_)
                | (go_at_call 60; first
                  | (with_reducible refine hT.mono ?_; rintro r w1 ⟨rfl, hU1⟩; have HB1 := Lib.hid (below_upd Hb0.out hU1 (Nat.le_refl _)))
                  | (with_reducible refine (hX w2).mono ?_; rintro r w3 ⟨rfl, hU3⟩)
                  | (refine (hY w2 _ hU3.blk).mono ?_; rintro r w4 ⟨rfl, hU4⟩))
                | (go_at_call 59; refine (hO _).mono ?_; rintro r w2 ⟨rfl, hb2⟩; have Hr2 := Lib.hid ((hb2.block _ (Nat.lt_of_lt_of_le Hsz0.out (Nat.le_of_eq hU1.size.symm))).trans hU1.blk); obtain ⟨c0, c1, c2, fz⟩ := cells3 Hr2.out; have HB2 := Lib.hid (HB1.out.trans (hb2.mono HB1.out.size)); have HX := Lib.hid (Nat.lt_of_lt_of_le (Nat.lt_of_lt_of_le Hsz0.out (Nat.le_of_eq hU1.size.symm)) hb2.size))
                | (go_at_call 61; refine (hE w2 _ hU4.blk).mono ?_; rintro r w5 ⟨rfl, hU5⟩; obtain ⟨f0, f1, f2, fz5⟩ := cells3 hU5.blk))
                go_ret2
                have HB5 := below_upd (below_upd (below_upd (HB2.out.alloc HB2.out.size (inObj o 0 0)) hU3 HB2.out.size) hU4 HB2.out.size) hU5 HB2.out.size
                exact ⟨_, l, p, rfl, hle, Hri.out.ch, Hn.out, Hri.out.out HB5⟩
              case pos =>
                rw [if_pos h5] at hrr'
                have Hn := Lib.hid hrr'; clear hrr'
                have hi5 : (if q2 + n2 < o.size ∧ (0 : Int) = 0 then (5 : Int) else 0) = 0 := if_neg (by omega)
                rw [hi5] at hE
                generalize o.extract q1 (q1 + n1) = k at *
                generalize o.extract q2 (q2 + n2) = d at *
                go_wp2_with (first
                | (with_reducible refine Lex.wp_region_lex (by kernel_rfl) (by decide +kernel) ?_)
                | (with_reducible refine Lex.fin_on (by kernel_rfl) ?_)
                | (go_at_call 60; first
                  | (with_reducible refine hT.mono ?_; rintro r w1 ⟨rfl, hU1⟩; have HB1 := Lib.hid (below_upd Hb0.out hU1 (Nat.le_refl _)))
                  | (with_reducible refine (hX w2).mono ?_; rintro r w3 ⟨rfl, hU3⟩)
                  | (refine (hY w2 _ hU3.blk).mono ?_; rintro r w4 ⟨rfl, hU4⟩))
                | (go_at_call 59; refine (hO _).mono ?_; rintro r w2 ⟨rfl, hb2⟩; have Hr2 := Lib.hid ((hb2.block _ (Nat.lt_of_lt_of_le Hsz0.out (Nat.le_of_eq hU1.size.symm))).trans hU1.blk); obtain ⟨c0, c1, c2, fz⟩ := cells3 Hr2.out; have HB2 := Lib.hid (HB1.out.trans (hb2.mono HB1.out.size)); have HX := Lib.hid (Nat.lt_of_lt_of_le (Nat.lt_of_lt_of_le Hsz0.out (Nat.le_of_eq hU1.size.symm)) hb2.size))
                | (go_at_call 61; refine (hE w2 _ hU4.blk).mono ?_; rintro r w5 ⟨rfl, hU5⟩; obtain ⟨f0, f1, f2, fz5⟩ := cells3 hU5.blk; have HB5 := Lib.hid (below_upd (below_upd (below_upd (HB2.out.alloc HB2.out.size (inObj o 0 0)) hU3 HB2.out.size) hU4 HB2.out.size) hU5 HB2.out.size); have Hz5 := Lib.hid (HB5.out.size))
                | (at_builtin; refine wpList_append_recB rfl (.tmp 49) (.tmp 53) 46 rfl (by kernel_rfl) w.heap.size _ _ rfl (Nat.le_trans Hri.out.below.size HB5.out.size) k d _ _ _ rfl (Hri.out.out HB5.out).1 hlen rfl ?_; intro v' w' hown' hbel' hblk'; have hr6 := hblk' wr.heap.size (rlt HX.out hU3 hU4 hU5) (rne Hri.out.own); rw [rkeep HX.out hU3 hU4 hU5, Hr2.out] at hr6; obtain ⟨g0, g1, g2, fz6⟩ := cells3 hr6))
                have hst := Hri.out.out HB5.out
                refine ⟨⟨l ++ [(k, d)], q + n, by go_num, ?_, ?_, ?_, hbel' _ hst.2⟩, ?_⟩
                · exact Hn.out.2.2
                · exact .snoc Hri.out.ch Hn.out.1
                · rw [recCells_snoc]; simpa using hown'
                · have := Hn.out.2.1; simp [intOf]; omega
end Go.Proofs.Ytmflngpgmmgohaa
