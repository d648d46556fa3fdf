/-
  Walks: Paths.
-/
import Derived.Test.YtkppcibffbnhoaaG5
namespace Go.Proofs.Ytkppcibffbnhoaa
open Go.RowKit
set_option maxRecDepth 100000

theorem paths43 (Z : Nat) (c : PB) (p : Option Addr) (cap r : Nat) (L : List T) (hL : L.length ≤ 100000) : ∀ (t : T), inn L t → ∀ (VP : List (Value × Value)) (ps : List IP) (v vp vn : Value) (pos neg : List Int) (w : World), PI Z c p cap r L VP ps v w → I3 w vp pos → I3 w vn neg →
    pos.length + neg.length ≤ t.lit → ps.length + (waysT t pos neg).length ≤ 100000 →
    Calls Try.prog 43 #[.int .i64 (ref L t), vp, vn, .pointer (some ⟨c.ov, 0, none⟩), .pointer (some ⟨c.dv, 0, none⟩), .pointer (some ⟨c.wv, 0, none⟩)] w (PR Z c p cap r L (waysT t pos neg) ps v w) := by
  intro t
  induction t with
  | c b =>
    intro _ VP ps v vp vn pos neg w h hp hn hl hps
    cases b with
    | false => exact paths_false Z c p cap r L VP ps v vp vn w h
    | true => exact paths_true Z c p cap r L VP ps v vp vn pos neg w h hp hn (by have : pos.length + neg.length ≤ 12 := hl; omega) (by have : pos.length + neg.length ≤ 12 := hl; omega) (by omega)
  | n l H K ihH ihK =>
    intro iL VP ps v vp vn pos neg w h hp hn hl hps
    have iLm : T.n l H K ∈ L := iL
    obtain ⟨kh, kk⟩ := h.wf.kids iLm
    have ot := h.wf.ok _ iLm
    have l12 := lit_lt ot
    have e : waysT (.n l H K) pos neg = waysT H (pos ++ [(l : Int)]) neg ++ waysT K pos (neg ++ [(l : Int)]) := rfl
    have hl' : pos.length + neg.length ≤ l := hl
    have hlen := congrArg List.length e
    rw [List.length_append] at hlen
    refine paths_node Z c p cap r L VP ps v vp vn pos neg l H K w h hp hn (by omega) (by omega) iLm hL ?_ ?_
    · intro vp' w' h1 h2 h3
      exact ihH kh VP ps v vp' vn _ neg w' h1 h2 h3 (by have := ot.2.2.1; rw [List.length_append]; simp; omega) (by omega)
    · intro VP' v' vn' w' h1 h2 h3
      exact ihK kk VP' _ v' vp vn' pos _ w' h1 h2 h3 (by have := ot.2.2.2.1; rw [List.length_append]; simp; omega) (by rw [List.length_append]; omega)

/-- What Paths answers. -/
def WaysR (ps : List IP) (w : World) (e : Ending) (w' : World) : Prop := ∃ P n cap, e = .returned (.slice P n cap) ∧ PS w' P n ps ∧ Below w.heap.size w w'
set_option maxHeartbeats 8000000 in
theorem paths_any (v : Value) (t : T) (w : World) (h : DV w v t) : Calls Try.prog 19 #[v] w (WaysR (waysT t [] []) w) := by
  obtain ⟨p, cap, rfl, hns⟩ := id h.dd.ex
  have hA1 := (Below.refl w.heap.size w).alloc (Nat.le_refl _) (.cells #[.slice p (canonN t).length cap, .int .i64 (canonR t)] 24)
  have hn1 := heap_alloc_new w (.cells #[.slice p (canonN t).length cap, .int .i64 (canonR t)] 24)
  have hs1 : (w.alloc (.cells #[.slice p (canonN t).length cap, .int .i64 (canonR t)] 24)).heap.size = w.heap.size + 1 := by simp
  have hsn := sound_tree _ t _ (h.below hA1)
  obtain ⟨wf, iL⟩ := canon_wf h.ok
  have hcl := canon_len h.ok
  have hwl := ways_len h.ok [] []
  have hlt := lit_le h.ok
  have hok := Lib.hid h.ok
  have Hns := Lib.hid hns
  have hmf : ∀ (fn : Fn) (first cap : Array Value) (w : World), (Instr.makeFunc fn first cap).run Try.prog w = .ok (.func fn first cap) w := fun _ _ _ _ => rfl
  have Hwf := Lib.hid wf; have HiL := Lib.hid iL
  clear h hns wf iL
  go_enter Try.func19, Try.ntmps19
  go_upto_region 1 with fail
  generalize w.alloc (.cells #[.slice p (canonN t).length cap, .int .i64 (canonR t)] 24) = w1 at *
  have HA1 := Lib.hid hA1; have Hn1 := Lib.hid hn1
  obtain ⟨a0, a1, -⟩ := cells2 hn1
  clear hA1 hn1
  go_upto_region 2 with (first
    | (go_at_call 42; refine hsn.mono ?_; rintro e w2 ⟨rfl, hb2⟩; have Hb2 := Lib.hid (HA1.out.step hb2); have Hn2 := Lib.hid ((hb2.block _ (heap_lt Hn1.out)).trans Hn1.out); clear hb2)
    | (with_reducible refine wpList_store_row rfl 24 (.tmp 1) (.tmp 6) rfl _ _ rfl rfl _ _ Hn2.out (by kernel_rfl) (by kernel_rfl) (by kernel_rfl) ?_))
  have hn3 := setRow_heap w2 w.heap.size _ #[.slice p (canonN t).length cap, .int .i64 (canonR t)] 24 _ Hn2.out
  have hb3 := below_setRow (cells := #[.slice p (canonN t).length cap, .int .i64 (canonR t)]) Hb2.out (Nat.le_refl _)
  generalize w2.setRow w.heap.size #[.slice p (canonN t).length cap, .int .i64 (canonR t)] = w3 at *
  clear HA1 Hn1 Hb2 Hn2 a0 a1 hsn hs1
  have Hn3 := Lib.hid hn3; have Hb3 := Lib.hid hb3
  have hz3 := heap_lt hn3
  clear hn3 hb3
  go_upto_region 5 with fail
  have q4 := heap_alloc_new w3 (.cells #[.slice none 0 0] 25)
  have p4 : Below w3.heap.size w3 (w3.alloc (.cells #[.slice none 0 0] 25)) := (Below.refl _ _).alloc (Nat.le_refl _) _
  have z4 : (w3.alloc (.cells #[.slice none 0 0] 25)).heap.size = w3.heap.size + 1 := by simp
  generalize w3.alloc (.cells #[.slice none 0 0] 25) = w4 at *
  have q5 := heap_alloc_new w4 (.cells #[.func (.func 43) #[] #[.pointer (some ⟨w3.heap.size, 0, none⟩), .pointer (some ⟨w.heap.size, 0, none⟩), .pointer (some ⟨w3.heap.size + 1, 0, none⟩)]] 68)
  have p5 : Below w4.heap.size w4 (w4.alloc (.cells #[.func (.func 43) #[] #[.pointer (some ⟨w3.heap.size, 0, none⟩), .pointer (some ⟨w.heap.size, 0, none⟩), .pointer (some ⟨w3.heap.size + 1, 0, none⟩)]] 68)) := (Below.refl _ _).alloc (Nat.le_refl _) _
  generalize w4.alloc (.cells #[.func (.func 43) #[] #[.pointer (some ⟨w3.heap.size, 0, none⟩), .pointer (some ⟨w.heap.size, 0, none⟩), .pointer (some ⟨w3.heap.size + 1, 0, none⟩)]] 68) = w5 at *
  rw [z4] at q5
  have p35 : Below w3.heap.size w3 w5 := p4.step p5
  have q45 := (p5.block _ (by omega)).trans q4
  have h35 := (p35.block _ hz3).trans Hn3.out
  have hb5 : Below w.heap.size w w5 := Hb3.out.step p35
  have hPI : PI w.heap.size ⟨w3.heap.size, w.heap.size, w3.heap.size + 1⟩ p cap (canonR t) (canonL t) [] [] (.slice none 0 0) w5 :=
    ⟨q45, h35, q5, Hns.out.nz.below hb5, World.ownsRow_nil _ _ _ _, VI2.nil _, Hwf.out, by show w.heap.size ≤ w3.heap.size; omega, hb5.size⟩
  have hpw : 2 ^ (12 - t.lit) ≤ 2 ^ 12 := Nat.pow_le_pow_right (by omega) (by omega)
  have hcl2 : (canonL t).length ≤ 100000 := by have := nodes_length (canonL t); have h2 : (canonN t).length = (canonL t).length := this; omega
  have h43 := paths43 w.heap.size ⟨w3.heap.size, w.heap.size, w3.heap.size + 1⟩ p cap (canonR t) (canonL t) hcl2 t HiL.out [] [] (.slice none 0 0) (.slice none 0 0) (.slice none 0 0) [] [] w5 hPI (I3.nil _) (I3.nil _) (by simp) (by simp; omega)
  dsimp only at h43
  rw [show ref (canonL t) t = canonR t from rfl] at h43
  obtain ⟨b0, b1, -⟩ := cells2 h35
  obtain ⟨f0, -⟩ := cells1 q5
  have Hb5 := Lib.hid hb5
  have H43 := Lib.hid h43
  clear h43 hPI hb5 p35 p4 p5 z4 q4 q5 q45 h35 Hns hmf Hwf HiL hok hpw hcl2 hcl
  go_upto_region 6 with (go_at_call 43; refine H43.out.mono ?_; rintro e w6 ⟨VP, v6, rfl, hI6, hf6⟩; have HI6 := Lib.hid hI6; have Hf6 := Lib.hid hf6; clear hI6 hf6)
  obtain ⟨p6, c6, rfl⟩ := own_slice HI6.out.own
  obtain ⟨o0, -⟩ := cells1 HI6.out.ov
  dsimp only at o0
  go_wp2
  go_ret
  refine ⟨p6, VP.length, c6, rfl, ?_, Hb5.out.trans (Hf6.out.below Hb5.out.size (by simp; omega) (by simp [Value.ownBlock]))⟩
  have := HI6.out.vals.ps HI6.out.own
  rwa [List.nil_append] at this
end Go.Proofs.Ytkppcibffbnhoaa
