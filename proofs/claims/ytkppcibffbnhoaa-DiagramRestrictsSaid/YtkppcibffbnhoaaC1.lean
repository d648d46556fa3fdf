/-
  Walks: the builder of diagrams.
-/
import Derived.Test.YtkppcibffbnhoaaA1
namespace Go.Proofs.Ytkppcibffbnhoaa
open Go.RowKit

def known (N : List Tri) (x : Tri) : Option Int := if x ∈ N then some ((N.idxOf x + 2 : Nat) : Int) else none
theorem known_snoc {N : List Tri} {x : Tri} (h : x ∉ N) (z : Tri) : known (N ++ [x]) z = if z = x then some ((N.length + 2 : Nat) : Int) else known N z := by
  unfold known
  by_cases hz : z = x
  · subst hz
    rw [if_pos (by simp), if_pos rfl, List.idxOf_append, if_neg h]
    simp
  · rw [if_neg hz]
    by_cases hm : z ∈ N
    · rw [if_pos (by simp [hm]), if_pos hm, List.idxOf_append, if_pos hm]
    · rw [if_neg (by simp [hm, hz]), if_neg hm]
/-- A builder in block b, its map in block kb. -/
structure BD (w : World) (B b kb : Nat) (v : Value) (N : List Tri) : Prop where
  blk : w.heap[b]? = some (.cells #[v, .map (some kb)] 78)
  own : w.ownsRow B 32 3 v N.length (triCells N)
  kn : MV w 32 lit3 good3 kb N.length (known N)
  ne : b ≠ kb
  nb : v.ownBlock ≠ some b
  nk : v.ownBlock ≠ some kb
theorem BD.below {w w' : World} {B b kb : Nat} {v : Value} {N : List Tri} (h : BD w B b kb v N) (hb : Below w.heap.size w w') : BD w' B b kb v N :=
  ⟨(hb.block _ (heap_lt h.blk)).trans h.blk, ownsRow_below h.own hb (Nat.le_refl _), h.kn.below hb, h.ne, h.nb, h.nk⟩
theorem BD.at {w w' : World} {B b kb : Nat} {v : Value} {N : List Tri} (h : BD w B b kb v N) (h1 : w'.heap[b]? = w.heap[b]?) (h2 : w'.heap[kb]? = w.heap[kb]?) (h3 : ∀ g, v.ownBlock = some g → w'.heap[g]? = w.heap[g]?) : BD w' B b kb v N :=
  ⟨h1.trans h.blk, ownsRow_at h.own h3, h.kn.at h2, h.ne, h.nb, h.nk⟩
theorem BD.drew {w : World} {B b kb : Nat} {v : Value} {N : List Tri} (h : BD w B b kb v N) : BD w.drew B b kb v N := h.at rfl rfl fun _ _ => rfl
theorem BD.lower {w : World} {B B' b kb : Nat} {v : Value} {N : List Tri} (h : BD w B b kb v N) (hB : B' ≤ B) : BD w B' b kb v N := { h with own := ownsRow_lower h.own hB }
theorem cells2 {w : World} {b : Nat} {v0 v1 : Value} {t : TypeId} (h : w.heap[b]? = some (.cells #[v0, v1] t)) :
    w.cell? ⟨b, 0, none⟩ = some v0 ∧ w.cell? ⟨b, 1, none⟩ = some v1 ∧ ∀ i, w.frozen? ⟨b, i, none⟩ = false := by
  simp [World.cell?, World.frozen?, h]
theorem cellsT {w : World} {b : Nat} {v0 v1 v2 : Value} {t : TypeId} (h : w.heap[b]? = some (.cells #[v0, v1, v2] t)) :
    w.cell? ⟨b, 0, none⟩ = some v0 ∧ w.cell? ⟨b, 1, none⟩ = some v1 ∧ w.cell? ⟨b, 2, none⟩ = some v2 := by
  simp [World.cell?, h]

set_option maxRecDepth 100000 in
theorem newbuilder_any (w : World) : Calls Try.prog 29 #[] w fun e w' => e = .returned (.pointer (some ⟨w.heap.size + 1, 0, none⟩)) ∧ BD w' (w.heap.size + 2) (w.heap.size + 1) w.heap.size (.slice none 0 0) [] ∧ Below w.heap.size w w' ∧ w'.heap.size = w.heap.size + 2 := by
  have hmm := @run_makeMap Try.prog
  go_enter Try.func29, Try.ntmps29
  go_wp2
  go_ret
  have hb := ((Below.refl w.heap.size w).alloc (Nat.le_refl _) (.map #[] 0)).alloc (by simp) (.cells #[.slice none 0 0, .map (some w.heap.size)] 78)
  have hm : MV ((w.alloc (.map #[] 0)).alloc (.cells #[.slice none 0 0, .map (some w.heap.size)] 78)) 32 lit3 good3 w.heap.size 0 (known []) :=
    ((MV.made w 32 lit3 good3).below ((Below.refl _ _).alloc (Nat.le_refl _) _)).congr fun a _ => by simp [known]
  have hn := heap_alloc_new (w.alloc (.map #[] 0)) (.cells #[.slice none 0 0, .map (some w.heap.size)] 78)
  have hs : (w.alloc (.map #[] 0)).heap.size = w.heap.size + 1 := by simp
  rw [hs] at hn
  exact ⟨rfl, ⟨hn, World.ownsRow_nil _ _ _ _, hm, by omega, by simp [Value.ownBlock], by simp [Value.ownBlock]⟩, hb, by simp⟩

theorem wpList_append_tri {ops : Array Oper} {rest : List Oper} {o : Oper} {a : Act} {Q : Exit → Act → World → Prop} (hgd : o.guard = none) (s x : Operand) (t : TypeId)
    (ho : o.op = .call { callee := .builtin .append, args := #[s, x], argTypes := #[t, t] }) (ht : Try.prog.underlying t = some (.slice 32))
    (B : Nat) (wx : World) (g : Nat) (y : Tri) (hg : wx.heap[g]? = some (.cells #[.int .i64 y.1, .int .i64 y.2.1, .int .i64 y.2.2] 32)) (hB : B ≤ wx.heap.size) (v : Value) (N : List Tri) (hs : a.eval s = v) (hown : wx.ownsRow B 32 3 v N.length (triCells N)) (hn : N.length ≤ 67108864)
    (hx : a.eval x = .slice (some ⟨g, 0, none⟩) 1 1)
    (h : ∀ v' w', w'.ownsRow B 32 3 v' (N.length + 1) (triCells (N ++ [y])) → Fr [] v v' wx w' → wpList Try.prog ops Q rest (a.put o.dst v') w') :
    wpList Try.prog ops Q (o :: rest) a wx := by
  refine wpList_append_fr hgd s x t ho 32 ht tri_info rfl (by decide) (by decide) B wx g (triC y) hg hB rfl (by intro u hu; simp [triC] at hu; rcases hu with rfl | rfl | rfl <;> rfl) v N.length _ hs hown hn hx ?_
  intro v' w' h1 h2
  rw [← triCells_snoc] at h1
  exact h v' w' h1 h2
def nodeN (N : List Tri) (l h k : Nat) : List Tri := if h = k then N else if (l, h, k) ∈ N then N else N ++ [(l, h, k)]
def nodeR (N : List Tri) (l h k : Nat) : Nat := if h = k then h else if (l, h, k) ∈ N then N.idxOf (l, h, k) + 2 else N.length + 2

set_option maxRecDepth 100000 in
set_option maxHeartbeats 8000000 in
theorem node_any (B b kb : Nat) (v : Value) (N : List Tri) (l h k : Nat) (w : World) (hB : BD w B b kb v N) (hBw : B ≤ w.heap.size) (hN : N.length ≤ 60000000) (hl : l ≤ 1000000) (hh : h ≤ 100000000) (hk : k ≤ 100000000) :
    Calls Try.prog 32 #[.pointer (some ⟨b, 0, none⟩), .int .i64 l, .int .i64 h, .int .i64 k] w fun e w' => ∃ v', e = .returned (.int .i64 (nodeR N l h k)) ∧ BD w' B b kb v' (nodeN N l h k) ∧ Fr [b, kb] v v' w w' := by
  obtain ⟨c0, c1, fz⟩ := cells2 hB.blk
  have hgd : good3 (l, h, k) := ⟨by show l ≤ _; omega, by show h ≤ _; omega, by show k ≤ _; omega⟩
  by_cases hhk : h = k
  · subst hhk
    have e1 : nodeR N l h h = h := by simp [nodeR]
    have e2 : nodeN N l h h = N := by simp [nodeN]
    rw [e1, e2]
    go_enter Try.func32, Try.ntmps32
    go_wp2
    go_ret
    exact ⟨v, rfl, hB, Fr.refl _ _ _⟩
  have hne : ((h : Int) == k) = false := by simp; omega
  have hlb := heap_lt hB.blk
  have hlk := hB.kn.lt
  have hal : Below w.heap.size w (w.alloc (.cells #[.int .i64 l, .int .i64 h, .int .i64 k] 32)) := (Below.refl _ _).alloc (Nat.le_refl _) _
  have hnw := heap_alloc_new w (.cells #[.int .i64 l, .int .i64 h, .int .i64 k] 32)
  by_cases hin : (l, h, k) ∈ N
  · have e1 : nodeR N l h k = N.idxOf (l, h, k) + 2 := by simp [nodeR, hhk, hin]
    have e2 : nodeN N l h k = N := by simp [nodeN, hhk, hin]
    have hf : known N (l, h, k) = some ((N.idxOf (l, h, k) + 2 : Nat) : Int) := by simp [known, hin]
    rw [e1, e2]
    clear e1 e2
    generalize N.idxOf (l, h, k) + 2 = r at *
    have HB := Lib.hid hB; clear hB
    have Hf := Lib.hid hf; clear hf
    go_enter Try.func32, Try.ntmps32
    go_wp2_with (first
      | ((with_reducible refine Lex.at_region ?_); with_reducible refine Lex.wp_region_lex (by kernel_rfl) (by decide +kernel) ?_)
      | ((with_reducible refine Lex.at_fin ?_); with_reducible refine Lex.fin_on (by kernel_rfl) ?_)
      | (at_lookup; refine wpList_mv_look code3 (by kernel_rfl) _ rfl _ _ rfl kb N.length (known N) rfl ((HB.out.below hal).drew).kn (l, h, k) hgd rfl ?_; rw [Hf.out]; intro c hc; obtain rfl := hc _ rfl))
    go_ret
    exact ⟨v, rfl, (HB.out.below hal).drew, (Fr.of_below hal).drew⟩
  · have e1 : nodeR N l h k = N.length + 2 := by simp [nodeR, hhk, hin]
    have e2 : nodeN N l h k = N ++ [(l, h, k)] := by simp [nodeN, hhk, hin]
    have hf : known N (l, h, k) = none := by simp [known, hin]
    rw [e1, e2]
    clear e1 e2
    obtain ⟨p, cap, rfl⟩ := own_slice hB.own
    have HB := Lib.hid hB; clear hB
    have Hf := Lib.hid hf; clear hf
    have Hin := Lib.hid hin; clear hin
    go_enter Try.func32, Try.ntmps32
    go_upto_region 7 with (first
      | ((with_reducible refine Lex.at_region ?_); with_reducible refine Lex.wp_region_lex (by kernel_rfl) (by decide +kernel) ?_)
      | ((with_reducible refine Lex.at_fin ?_); with_reducible refine Lex.fin_on (by kernel_rfl) ?_)
      | (at_lookup; refine wpList_mv_look code3 (by kernel_rfl) _ rfl _ _ rfl kb N.length (known N) rfl ((HB.out.below hal).drew).kn (l, h, k) hgd rfl ?_; rw [Hf.out]; intro c hc))
    have HBa := Lib.hid (HB.out.below hal).drew
    have Hal := Lib.hid hal; clear hal
    obtain ⟨wa, hwa⟩ : ∃ x, x = (w.alloc (.cells #[.int .i64 l, .int .i64 h, .int .i64 k] 32)).drew := ⟨_, rfl⟩
    have hna : wa.heap[w.heap.size]? = some (.cells #[.int .i64 l, .int .i64 h, .int .i64 k] 32) := by rw [hwa]; exact hnw
    have hfa : Fr [b, kb] (.slice p N.length cap) (.slice p N.length cap) w wa := by rw [hwa]; exact (Fr.of_below Hal.out).drew
    rw [← hwa]
    rw [← hwa] at HBa
    clear hwa hnw c0 c1 fz Hal
    obtain ⟨c0, c1, fz⟩ := cells2 HBa.out.blk
    obtain ⟨n0, n1, n2⟩ := cellsT hna
    have Hna := Lib.hid hna; clear hna
    have Hfa := Lib.hid hfa; clear hfa
    have HBw := Lib.hid (show B ≤ (wa.alloc (.cells #[.int .i64 l, .int .i64 h, .int .i64 k] 32)).drew.heap.size by have := Hfa.out.size; simp; omega)
    have HBx := Lib.hid (HBa.out.below ((Below.refl _ wa).alloc (Nat.le_refl _) (.cells #[.int .i64 l, .int .i64 h, .int .i64 k] 32))).drew
    have y0 := Lib.hid (show wa.drew.cell? ⟨b, 0, none⟩ = _ from c0)
    have y1 := Lib.hid (show wa.drew.cell? ⟨w.heap.size, 0, none⟩ = _ from n0)
    have Hov := Lib.hid (show ∀ g, (Value.slice p N.length cap).ownBlock = some g → ¬ (g = b ∨ g = w.heap.size) from fun g hg hx => by
      have := (HB.out.own.lt g hg).2
      rcases hx with rfl | rfl
      · exact HB.out.nb hg
      · omega)
    have hsz := HBa.out.kn.lt
    have hlba := heap_lt HBa.out.blk
    have hlna := heap_lt Hna.out
    go_upto_region 8 with (first
      | ((with_reducible refine Lex.at_finK ?_); refine LexK.finE_on (by kernel_rfl) (by repeat first | exact LexK.finL_nil | refine LexK.finL_none rfl ?_ | refine LexK.finL_skip (by decide +kernel) ?_ | refine LexK.finL_take rfl (.inl rfl) y0.out ?_ | refine LexK.finL_take rfl (.inr rfl) y1.out ?_) ?_)
      | ((with_reducible refine Lex.at_region ?_); refine LexK.wp_region_lexE (fun x => x = b ∨ x = w.heap.size) (by kernel_rfl) (by decide +kernel) ?_)
      | ((with_reducible refine Lex.at_wpX ?_); with_reducible refine LexK.wpX_plain (by decide +kernel) ?_)
      | ((with_reducible refine Lex.at_wpX ?_); with_reducible refine LexK.wpX_call ?_)
      | ((with_reducible refine Lex.at_wpX ?_); with_reducible refine LexK.wpX_nil ?_)
      | ((with_reducible refine Lex.at_ext ?_); with_reducible refine LexK.ext_on (LexK.Ext.alloc _ _) ?_)
      | ((with_reducible refine Lex.at_ext ?_); refine LexK.ext_on (ext_fr hf3 (by simp) Hov.out) ?_)
      | (at_builtin; go_loud (refine wpList_append_tri rfl (.tmp 35) (.tmp 37) 22 rfl (by kernel_rfl) B _ wa.heap.size (l, h, k) (heap_alloc_new wa _) HBw.out (.slice p N.length cap) N rfl HBx.out.own (by omega) rfl ?_; intro v3 w3 ho3 hf3; obtain ⟨p3, cap3, rfl⟩ := own_slice ho3; have Ho3 := Lib.hid ho3; clear ho3; have hblk3 := (hf3.block b (by simp; omega) (by simp) HB.out.nb).trans HBx.out.blk; obtain ⟨g30, -, fz3⟩ := cells2 hblk3)))
    have hU := Upd.cast (o' := .cells #[.slice p3 (N.length + 1) cap3, .map (some kb)] 78) (Upd.set (i := 0) (v := .slice p3 (N.length + 1) cap3) (Upd.refl hblk3)) (by simp)
    have hlw := HBa.out.kn.lt
    have hwx := ((Below.refl wa.heap.size wa).alloc (Nat.le_refl _) (.cells #[.int .i64 l, .int .i64 h, .int .i64 k] 32)).drew
    have hxs := hwx.size
    have hov3 : ∀ g, (Value.slice p3 (N.length + 1) cap3).ownBlock = some g → g ≠ b ∧ g ≠ kb ∧ g ≠ w.heap.size := fun g hg => by
      rcases hf3.own with e | e
      · rw [e] at hg
        have h1 := Hov.out g hg
        exact ⟨fun e => h1 (.inl e), fun e => HB.out.nk (by rw [hg, e]), fun e => h1 (.inr e)⟩
      · have := e g hg
        exact ⟨by omega, by omega, by omega⟩
    have hkn3 : MV w3 32 lit3 good3 kb N.length (known N) := HBx.out.kn.at (hf3.block kb (by omega) (by simp) HB.out.nk)
    have hna3 : w3.heap[w.heap.size]? = some (.cells #[.int .i64 l, .int .i64 h, .int .i64 k] 32) := (hf3.block _ (by omega) (by simp) (fun e => Hov.out _ e (.inr rfl))).trans ((hwx.block _ hlna).trans Hna.out)
    have hb8 := hU.blk
    have hkn8 : MV (w3.setCell ⟨b, 0, none⟩ (.slice p3 (N.length + 1) cap3)) 32 lit3 good3 kb N.length (known N) := hkn3.at (hU.other _ (fun e => HB.out.ne e.symm))
    have hna8 := (hU.other w.heap.size (by omega)).trans hna3
    have ho8 : (w3.setCell ⟨b, 0, none⟩ (.slice p3 (N.length + 1) cap3)).ownsRow B 32 3 (.slice p3 (N.length + 1) cap3) (N.length + 1) (triCells (N ++ [(l, h, k)])) := ownsRow_at Ho3.out fun g hg => hU.other g (hov3 g hg).1
    have hf8 : Fr [b, kb] (.slice p N.length cap) (.slice p3 (N.length + 1) cap3) w (w3.setCell ⟨b, 0, none⟩ (.slice p3 (N.length + 1) cap3)) := ((Hfa.out.trans (Fr.of_below hwx)).trans (hf3.mono (by simp))).trans (Fr.of_upd hU (by simp))
    generalize w3.setCell ⟨b, 0, none⟩ (.slice p3 (N.length + 1) cap3) = w8 at *
    clear hU hna3 hkn3 hwx hxs hlw g30 fz3 hblk3 y0 y1 hlba hlna n0 n1 n2 c0 c1 fz
    obtain ⟨c0, c1, fz⟩ := cells2 hb8
    obtain ⟨n0, n1, n2⟩ := cellsT hna8
    have Hf8 := Lib.hid hf8; clear hf8
    have Ho8 := Lib.hid ho8; clear ho8
    have Hk8 := Lib.hid hkn8; clear hkn8
    have Hb8 := Lib.hid hb8; clear hb8
    clear hna8
    have Hov3 := Lib.hid hov3; clear hov3
    go_wp2_with (first
      | ((with_reducible refine Lex.at_region ?_); with_reducible refine Lex.wp_region_lex (by kernel_rfl) (by decide +kernel) ?_)
      | ((with_reducible refine Lex.at_fin ?_); with_reducible refine Lex.fin_on (by kernel_rfl) ?_)
      | (at_mapUpdate; go_loud (refine wpList_mv_put code3 (by kernel_rfl) _ rfl _ _ _ (.inl rfl) kb N.length (known N) rfl (Hk8.out.at rfl) (by omega) (l, h, k) hgd rfl ((N.length + 2 : Nat) : Int) rfl (wf_nat (by omega)) ?_; intro w9 hm9 ht9; have Hm9 := Lib.hid hm9; clear hm9; have hb9 := (ht9.grown.block b (heap_lt Hb8.out) (by simp; exact HB.out.ne)).trans Hb8.out; obtain ⟨d0, -, -⟩ := cells2 hb9; have Ht9 := Lib.hid ht9; clear ht9)))
    go_ret
    have hlen : (N ++ [(l, h, k)]).length = N.length + 1 := by simp
    have ht9 := Ht9.out
    refine ⟨.slice p3 (N.length + 1) cap3, rfl, ⟨hb9, ?_, ?_, HB.out.ne, fun e => (Hov3.out _ e).1 rfl, fun e => (Hov3.out _ e).2.1 rfl⟩, ((Hf8.out.drew).trans (Fr.of_turned ht9 (by simp)))⟩
    · rw [hlen]
      refine ownsRow_at Ho8.out fun g hg => ht9.grown.block g (by have := (Ho8.out.lt g hg).2; exact this) (by simp; exact (Hov3.out g hg).2.1)
    · rw [hlen]
      exact Hm9.out.congr fun z _ => by rw [known_snoc Hin.out]
end Go.Proofs.Ytkppcibffbnhoaa
