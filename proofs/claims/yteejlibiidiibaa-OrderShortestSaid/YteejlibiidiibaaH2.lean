/-
  Walks: container/heap over ready.
-/
import Derived.Test.YteejlibiidiibaaH0
namespace Go.Proofs.Yteejlibiidiibaa
open Go.RowKit
set_option maxRecDepth 100000
/-- What the heap's functions keep. -/
structure YF (rb B : Nat) (w w' : World) : Prop where
  below : Below B w w'
  keep : ∀ (k : Nat) (arr : Array Value) (t : TypeId), w.heap[k]? = some (.cells arr t) → k ≠ rb → (t ≠ 3 ∨ k < B) → w'.heap[k]? = w.heap[k]?
theorem YF.refl (rb B : Nat) (w : World) : YF rb B w w := ⟨Below.refl _ _, fun _ _ _ _ _ _ => rfl⟩
theorem YF.trans {rb B : Nat} {w w1 w2 : World} (h : YF rb B w w1) (k : YF rb B w1 w2) : YF rb B w w2 :=
  ⟨h.below.trans k.below, fun b arr t hb h1 h2 => (k.keep b arr t ((h.keep b arr t hb h1 h2).trans hb) h1 h2).trans (h.keep b arr t hb h1 h2)⟩
theorem YF.drew {rb B : Nat} {w w' : World} (h : YF rb B w w') : YF rb B w w'.drew := ⟨h.below.drew, h.keep⟩
theorem YF.of_tch {rb B g : Nat} {w w' : World} {xs : List Int} {v : Value} (h : RY rb B xs v w) (hg : v.ownBlock = some g) (ht : Tch g w w') : YF rb B w w' := by
  have h1 := (h.own.lt g hg).1
  have h2 := h.lt
  obtain ⟨h3, tc, h4⟩ := own_ty h.own hg
  obtain ⟨o, hu⟩ := ht
  refine ⟨hu.below (by omega), fun k arr t hk _ hne => hu.other k fun e => ?_⟩
  subst e
  rw [hk] at h4; cases h4
  rcases hne with e | e
  · exact e rfl
  · omega
theorem RY.drew {rb B : Nat} {xs : List Int} {v : Value} {w : World} (h : RY rb B xs v w) : RY rb B xs v w.drew := ⟨h.blk, ownsRow_at h.own fun _ _ => rfl, h.lt, h.sz⟩
theorem RY.swap {rb B g : Nat} {xs ys : List Int} {v : Value} {w w' : World} (h : RY rb B xs v w) (hg : v.ownBlock = some g) (ht : Tch g w w') (ho : w'.ownsRow B 3 1 v xs.length (ic ys)) (hl : ys.length = xs.length) : RY rb B ys v w' := by
  have h1 := (h.own.lt g hg).1
  have h2 := h.lt
  obtain ⟨o, hu⟩ := ht
  exact ⟨(hu.other _ (Ne.symm (h.ne hg))).trans h.blk, by rw [hl]; exact ho, h2, by rw [hu.size]; exact h.sz⟩
theorem load42 (w : World) (rb : Nat) (v : Value) (z : w.cell? ⟨rb, 0, none⟩ = some v) : (loadVar 42 ⟨rb, 0, none⟩).run Try.prog w = .ok v w := by
  have e : (isAgg 42).run Try.prog w = .ok false w := by kernel_rfl
  unfold loadVar
  rw [Sem.run_bind, e]
  simp [Result.andThen, load, Sem.run, z]
theorem method_val {f : FuncId} {name : String} (hm : (((Try.prog.info? 41).getD default).methods.find? (·.name == name)).map (fun m => (m.path, m.func)) = some (#[], some (f, false))) (w : World) (rb : Nat) (v : Value) (z : w.cell? ⟨rb, 0, none⟩ = some v) :
    (method 214 41 (.pointer (some ⟨rb, 0, none⟩)) name).run Try.prog w = .ok (f, v) w := by
  have e : (typeInfo 41).run Try.prog w = .ok ((Try.prog.info? 41).getD default) w := by kernel_rfl
  have u : (underlying 41).run Try.prog w = .ok (.pointer 42) w := by kernel_rfl
  have hl := load42 w rb v z
  have hw : ∀ (a : Addr) (s1 s2 : String), (Builtin.ssaWrapNilChk_ #[41] 41 #[.pointer (some a), strVal s1, strVal s2]).run Try.prog w = .ok (.pointer (some a)) w := fun _ _ _ => rfl
  unfold method
  rw [Sem.run_bind, e]
  simp only [Result.andThen_ok]
  cases hf : ((Try.prog.info? 41).getD default).methods.find? (·.name == name) with
  | none => rw [hf] at hm; cases hm
  | some m =>
    rw [hf] at hm
    simp only [Option.map_some, Option.some.injEq, Prod.mk.injEq] at hm
    obtain ⟨h1, h2⟩ := hm
    simp only [h1, h2, follow, pure_bind]
    rw [Sem.run_bind]
    unfold receiverAt
    rw [Sem.run_bind, u]
    simp only [Result.andThen_ok]
    simp [Place.get, hw, asAddr, hl, Result.andThen]
theorem m_push (w : World) (a : Addr) : (method 214 41 (.pointer (some a)) "Push").run Try.prog w = .ok (83, .pointer (some a)) w := by kernel_rfl
theorem m_pop (w : World) (a : Addr) : (method 214 41 (.pointer (some a)) "Pop").run Try.prog w = .ok (82, .pointer (some a)) w := by kernel_rfl
theorem m_less (w : World) (rb : Nat) (v : Value) (z : w.cell? ⟨rb, 0, none⟩ = some v) : (method 214 41 (.pointer (some ⟨rb, 0, none⟩)) "Less").run Try.prog w = .ok (81, v) w := method_val (by kernel_rfl) w rb v z
theorem m_swap (w : World) (rb : Nat) (v : Value) (z : w.cell? ⟨rb, 0, none⟩ = some v) : (method 214 41 (.pointer (some ⟨rb, 0, none⟩)) "Swap").run Try.prog w = .ok (84, v) w := method_val (by kernel_rfl) w rb v z
theorem m_len (w : World) (rb : Nat) (v : Value) (z : w.cell? ⟨rb, 0, none⟩ = some v) : (method 214 41 (.pointer (some ⟨rb, 0, none⟩)) "Len").run Try.prog w = .ok (25, v) w := method_val (by kernel_rfl) w rb v z
def UR (rb B : Nat) (xs : List Int) (w : World) (e : Ending) (w' : World) : Prop := ∃ ys v, e = .returned (.tuple #[]) ∧ ys.Perm xs ∧ Heap ys ys.length ∧ RY rb B ys v w' ∧ YF rb B w w'
set_option maxHeartbeats 8000000 in
theorem up_any (rb B : Nat) (xs : List Int) (v : Value) (j : Nat) (w : World) (h : RY rb B xs v w) (hj : HUp xs j) (hl : xs.length ≤ 1000000) :
    Calls Try.prog 36 #[.iface 41 (.pointer (some ⟨rb, 0, none⟩)), .int .i64 j] w (UR rb B xs w) := by
  have H := Lib.hid h; have Hj := Lib.hid hj
  clear h hj
  go_enter Try.func36, Try.ntmps36
  go_wp2
  go_loopw [1] (fun a wr => ∃ (k : Nat) (ys : List Int) (v : Value), a = .int .i64 k ∧ ys.Perm xs ∧ HUp ys k ∧ RY rb B ys v wr ∧ YF rb B w wr) (fun a _ => (intOf a).toNat)
  case atStart => exact ⟨j, xs, v, rfl, List.Perm.refl _, Hj.out, H.out, YF.refl _ _ _⟩
  case round =>
    obtain ⟨k, ys, v, rfl, hp, hu, hr, hf⟩ := hrel
    have hlen : ys.length ≤ 1000000 := by rw [hp.length_eq]; exact hl
    have Hp := Lib.hid hp; have Hu := Lib.hid hu; have Hr := Lib.hid hr; have Hf := Lib.hid hf
    have hkl := hu.lt
    clear hp hu hr hf
    rcases Nat.eq_zero_or_pos k with rfl | hk0
    · have hh := Hu.out.stop (.inl rfl)
      have Hh := Lib.hid hh; clear hh
      go_wp2
      go_end0
      exact ⟨ys, v, rfl, Hp.out, Hh.out, Hr.out, Hf.out⟩
    · obtain ⟨m, rfl⟩ : ∃ m, k = m + 1 := ⟨k - 1, by omega⟩
      have hm1 : m ≤ 1000000 := by omega
      obtain ⟨pv, cv, rfl⟩ := own_slice Hr.out.own
      have e1 : ((m + 1 : Nat) : Int) = (m : Int) + 1 := by omega
      have e2 : ((m / 2 : Nat) : Int) = (m : Int) / 2 := by omega
      have d0 : ((m : Int) / 2 == (m : Int) + 1) = false := by rw [beq_eq_false_iff_ne]; omega
      have hless := less_any B pv cv ys (m + 1) (m / 2) wr Hr.out.own hkl (by omega) hlen
      have hswap := swap_any B pv cv ys (m / 2) (m + 1) wr.drew Hr.out.drew.own (by omega) hkl hlen
      rw [e1, e2] at hless hswap
      have Hk := Lib.hid (show Value.int .i64 ((m : Int) / 2) = .int .i64 ((m / 2 : Nat) : Int) by rw [e2])
      have hml := m_less wr rb _ (one_cell Hr.out.blk)
      have hms := m_swap wr.drew rb _ (one_cell Hr.out.blk)
      have g1 := gt_at hkl
      have g2 := gt_at (xs := ys) (k := m / 2) (by omega)
      rw [← g1, ← g2] at hless
      have Hless := Lib.hid hless; have Hswap := Lib.hid hswap
      clear hless hswap e1 e2 g1 g2
      by_cases hlt : gt ys (m + 1) < gt ys (m / 2)
      · have db : decide (gt ys (m + 1) < gt ys (m / 2)) = true := by simpa using hlt
        have hstep := Hu.out.step (by omega) (show gt ys (m + 1) < gt ys ((m + 1 - 1) / 2) by rw [Nat.add_sub_cancel]; exact hlt)
        rw [Nat.add_sub_cancel] at hstep
        have Hstep := Lib.hid hstep; clear hstep
        rw [db] at Hless
        clear db hlt
        go_wp2_with (first
          | (go_at_call 81; refine Hless.out.mono ?_; rintro e w2 ⟨rfl, rfl⟩)
          | (go_at_call 84; refine Hswap.out.mono ?_; rintro e w3 ⟨rfl, ho3, g3, hg3, ht3⟩; have Ho3 := Lib.hid ho3; have Hg3 := Lib.hid hg3; have Ht3 := Lib.hid ht3; clear ho3 hg3 ht3))
        have hg4 : (Value.slice pv ys.length cv).ownBlock = some g3 := by rw [Hg3.out]; rfl
        exact ⟨⟨m / 2, swp ys (m / 2) (m + 1), _, Hk.out, (swp_perm (by omega) hkl).trans Hp.out, Hstep.out, Hr.out.drew.swap hg4 Ht3.out Ho3.out (swp_len _ _ _), Hf.out.drew.trans (YF.of_tch Hr.out.drew hg4 Ht3.out)⟩, by simp [intOf]; omega⟩
      · have db : decide (gt ys (m + 1) < gt ys (m / 2)) = false := by simpa using hlt
        have hh := Hu.out.stop (.inr (show gt ys ((m + 1 - 1) / 2) ≤ gt ys (m + 1) by rw [Nat.add_sub_cancel]; omega))
        have Hh := Lib.hid hh
        rw [db] at Hless
        clear db hlt hh
        go_wp2_with (go_at_call 81; refine Hless.out.mono ?_; rintro e w2 ⟨rfl, rfl⟩)
        go_end0
        exact ⟨ys, _, rfl, Hp.out, Hh.out, Hr.out.drew, Hf.out.drew⟩
end Go.Proofs.Yteejlibiidiibaa
