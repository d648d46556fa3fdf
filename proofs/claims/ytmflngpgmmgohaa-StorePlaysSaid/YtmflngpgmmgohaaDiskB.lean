/-
  Walks of package disk: the other methods; a disk that does not exist.
-/
import Derived.Test.YtmflngpgmmgohaaDisk
namespace Go.Proofs.Ytmflngpgmmgohaa
open Go.RowKit

theorem read_any (b : Nat) (D : DM) (w : World) (hb : w.heap[b]? = some D.obj) :
    Calls Try.prog 13 #[.pointer (some ⟨b, 0, none⟩)] w fun e w' => e = .returned (.string D.data) ∧ w = w' := by
  obtain ⟨c0, c1, c2, c3, c4, c5, c6, fz⟩ := cells7 hb
  go_enter Try.func13, Try.ntmps13
  go_wp2_with (first
          | (with_reducible refine Lex.wp_region_lex (by kernel_rfl) (by decide +kernel) ?_)
          | (with_reducible refine Lex.fin_on (by kernel_rfl) ?_))
  go_ret
  exact ⟨rfl, rfl⟩
theorem len_any (b : Nat) (D : DM) (w : World) (hb : w.heap[b]? = some D.obj) :
    Calls Try.prog 14 #[.pointer (some ⟨b, 0, none⟩)] w fun e w' => e = .returned (.int .i64 D.data.size) ∧ w = w' := by
  go_enter Try.func14, Try.ntmps14
  go_wp2_with (first
          | (with_reducible refine Lex.wp_region_lex (by kernel_rfl) (by decide +kernel) ?_)
          | (with_reducible refine Lex.fin_on (by kernel_rfl) ?_)
          | (go_at_call 13; refine (read_any b D _ hb).mono ?_; rintro e w1 ⟨rfl, rfl⟩))
  go_ret
  exact ⟨rfl, rfl⟩
theorem synced_any (b : Nat) (D : DM) (w : World) (hb : w.heap[b]? = some D.obj) :
    Calls Try.prog 15 #[.pointer (some ⟨b, 0, none⟩)] w fun e w' => e = .returned (.int .i64 D.syn) ∧ w = w' := by
  obtain ⟨c0, c1, c2, c3, c4, c5, c6, fz⟩ := cells7 hb
  go_enter Try.func15, Try.ntmps15
  go_wp2_with (first
          | (with_reducible refine Lex.wp_region_lex (by kernel_rfl) (by decide +kernel) ?_)
          | (with_reducible refine Lex.fin_on (by kernel_rfl) ?_))
  go_ret
  exact ⟨rfl, rfl⟩
theorem crashed_any (b : Nat) (D : DM) (w : World) (hb : w.heap[b]? = some D.obj) :
    Calls Try.prog 24 #[.pointer (some ⟨b, 0, none⟩)] w fun e w' => e = .returned (.bool D.crashed) ∧ w = w' := by
  obtain ⟨c0, c1, c2, c3, c4, c5, c6, fz⟩ := cells7 hb
  go_enter Try.func24, Try.ntmps24
  go_wp2_with (first
          | (with_reducible refine Lex.wp_region_lex (by kernel_rfl) (by decide +kernel) ?_)
          | (with_reducible refine Lex.fin_on (by kernel_rfl) ?_))
  go_ret
  exact ⟨rfl, rfl⟩
set_option maxRecDepth 100000 in
theorem arm_any (b : Nat) (D : DM) (n k : Int) (w : World) (hb : w.heap[b]? = some D.obj) :
    Calls Try.prog 20 #[.pointer (some ⟨b, 0, none⟩), .int .i64 n, .int .i64 k] w fun e w' => e = .returned (.tuple #[]) ∧ Upd b (D.armD n k).obj w w' := by
  obtain ⟨cap, data, syn, armed, left, keep, crashed⟩ := D
  have hb' := hb
  simp only [DM.obj] at hb
  obtain ⟨c0, c1, c2, c3, c4, c5, c6, fz⟩ := cells7 hb
  cases crashed
  case true =>
    go_enter Try.func20, Try.ntmps20
    go_wp2_with (first
          | (with_reducible refine Lex.wp_region_lex (by kernel_rfl) (by decide +kernel) ?_)
          | (with_reducible refine Lex.fin_on (by kernel_rfl) ?_))
    all_goals go_end0
    all_goals exact ⟨rfl, Upd.refl hb'⟩
  case false =>
    go_enter Try.func20, Try.ntmps20
    go_wp2_with (first
          | (with_reducible refine Lex.wp_region_lex (by kernel_rfl) (by decide +kernel) ?_)
          | (with_reducible refine Lex.fin_on (by kernel_rfl) ?_))
    all_goals go_end0
    all_goals refine ⟨rfl, Upd.cast (Upd.set (Upd.set (Upd.set (Upd.refl hb)))) ?_⟩
    all_goals simp [DM.armD, DM.obj]
    all_goals omega
set_option maxRecDepth 100000 in
theorem restart_any (b : Nat) (D : DM) (w : World) (hb : w.heap[b]? = some D.obj) :
    Calls Try.prog 21 #[.pointer (some ⟨b, 0, none⟩)] w fun e w' => e = .returned (.tuple #[]) ∧ Upd b D.restartD.obj w w' := by
  obtain ⟨cap, data, syn, armed, left, keep, crashed⟩ := D
  have hb' := hb
  simp only [DM.obj] at hb
  obtain ⟨c0, c1, c2, c3, c4, c5, c6, fz⟩ := cells7 hb
  cases crashed
  case false =>
    go_enter Try.func21, Try.ntmps21
    go_wp2_with (first
          | (with_reducible refine Lex.wp_region_lex (by kernel_rfl) (by decide +kernel) ?_)
          | (with_reducible refine Lex.fin_on (by kernel_rfl) ?_)
          | (go_at_call 24; refine (crashed_any b _ _ hb').mono ?_; rintro e w1 ⟨rfl, rfl⟩))
    go_end0
    exact ⟨rfl, Upd.refl hb'⟩
  case true =>
    go_enter Try.func21, Try.ntmps21
    go_wp2_with (first
          | (with_reducible refine Lex.wp_region_lex (by kernel_rfl) (by decide +kernel) ?_)
          | (with_reducible refine Lex.fin_on (by kernel_rfl) ?_)
          | (go_at_call 24; refine (crashed_any b _ _ hb').mono ?_; rintro e w1 ⟨rfl, rfl⟩))
    go_end0
    refine ⟨rfl, Upd.cast (Upd.set (Upd.set (Upd.set (Upd.refl hb)))) ?_⟩
    simp [DM.restartD, DM.obj]
set_option maxRecDepth 100000 in
theorem sync_any (b : Nat) (D : DM) (w : World) (hD : D.Ok) (hb : w.heap[b]? = some D.obj) :
    Calls Try.prog 22 #[.pointer (some ⟨b, 0, none⟩)] w fun e w' => e = .returned (.int .i64 D.syncC) ∧ Upd b D.syncD.obj w w' := by
  obtain ⟨c0, c1, c2, c3, c4, c5, c6, fz⟩ := cells7 hb
  by_cases hc : D.crashed = true
  · have hres : D.syncD = D ∧ D.syncC = 28 := by simp [DM.syncD, DM.syncC, hc]
    have Hres := Lib.hid hres; clear hres
    rw [hc] at c6
    clear hc
    go_enter Try.func22, Try.ntmps22
    go_wp2_with (first
          | (with_reducible refine Lex.wp_region_lex (by kernel_rfl) (by decide +kernel) ?_)
          | (with_reducible refine Lex.fin_on (by kernel_rfl) ?_))
    go_ret
    exact ⟨by rw [Hres.out.2]; rfl, by rw [Hres.out.1]; exact Upd.refl hb⟩
  · rw [Bool.not_eq_true] at hc
    have hcode : D.syncC = if D.strikes then 28 else 0 := by simp [DM.syncC, hc]
    have hres : D.syncD = if D.strikes then D.struck.crash else { D.struck with syn := D.data.size } := by simp [DM.syncD, hc]
    have Hres := Lib.hid hres; clear hres
    have Hcode := Lib.hid hcode; clear hcode
    rw [hc] at c6
    clear hc
    by_cases hx : D.strikes = true
    · skip
      go_enter Try.func22, Try.ntmps22
      go_wp2_with (first
          | (with_reducible refine Lex.wp_region_lex (by kernel_rfl) (by decide +kernel) ?_)
          | (with_reducible refine Lex.fin_on (by kernel_rfl) ?_)
          | (go_at_call 49; refine (strikes_any b D _ hD (by exact hb)).mono ?_; rw [hx]; rintro e w1 ⟨rfl, hU⟩; obtain ⟨d0, d1, d2, d3, d4, d5, d6, dz⟩ := cells7 hU.blk)
          | (go_at_call 50; refine (crash_any b D.struck _ (by rw [(struck_data D).2.1]; exact hD.cap1) (by rw [(struck_data D).1, (struck_data D).2.1]; exact hD.data) (by rw [(struck_data D).1, (struck_data D).2.2.1]; exact hD.syn) (by rw [(struck_data D).2.2.2.1]; exact hD.keep0) (by rw [(struck_data D).2.2.2.1]; exact hD.keep1) hU.blk).mono ?_; rintro e w2 ⟨rfl, hU2⟩))
      go_ret
      refine ⟨by rw [Hcode.out, hx]; rfl, ?_⟩
      rw [Hres.out, hx]
      exact hU.trans hU2
    · rw [Bool.not_eq_true] at hx
      go_enter Try.func22, Try.ntmps22
      go_wp2_with (first
          | (with_reducible refine Lex.wp_region_lex (by kernel_rfl) (by decide +kernel) ?_)
          | (with_reducible refine Lex.fin_on (by kernel_rfl) ?_)
          | (go_at_call 49; refine (strikes_any b D _ hD (by exact hb)).mono ?_; rw [hx]; rintro e w1 ⟨rfl, hU⟩; obtain ⟨d0, d1, d2, d3, d4, d5, d6, dz⟩ := cells7 hU.blk))
      go_ret
      refine ⟨by rw [Hcode.out, hx]; rfl, ?_⟩
      rw [Hres.out, hx]
      refine hU.trans (Upd.cast (Upd.set (Upd.refl hU.blk)) ?_)
      simp [DM.obj, struck_data]
set_option maxRecDepth 100000 in
theorem trunc_any (b : Nat) (D : DM) (n : Int) (w : World) (hD : D.Ok) (hb : w.heap[b]? = some D.obj) :
    Calls Try.prog 23 #[.pointer (some ⟨b, 0, none⟩), .int .i64 n] w fun e w' => e = .returned (.int .i64 (D.truncC n)) ∧ Upd b (D.truncD n).obj w w' := by
  obtain ⟨c0, c1, c2, c3, c4, c5, c6, fz⟩ := cells7 hb
  have hs1 := hD.cap1
  have hs2 := hD.data
  have hs3 := hD.syn
  by_cases hc : D.crashed = true
  · have hres : D.truncD n = D ∧ D.truncC n = 28 := by simp [DM.truncD, DM.truncC, hc]
    have Hres := Lib.hid hres; clear hres
    rw [hc] at c6
    clear hc
    go_enter Try.func23, Try.ntmps23
    go_wp2_with (first
          | (with_reducible refine Lex.wp_region_lex (by kernel_rfl) (by decide +kernel) ?_)
          | (with_reducible refine Lex.fin_on (by kernel_rfl) ?_))
    go_ret
    exact ⟨by rw [Hres.out.2]; rfl, by rw [Hres.out.1]; exact Upd.refl hb⟩
  rw [Bool.not_eq_true] at hc
  by_cases hr : n < 0 ∨ (D.data.size : Int) < n
  · have hres : D.truncD n = D ∧ D.truncC n = 1 := by simp [DM.truncD, DM.truncC, hc, hr]
    have Hres := Lib.hid hres; clear hres
    rw [hc] at c6
    clear hc
    by_cases hn : n < 0
    · clear hr
      go_enter Try.func23, Try.ntmps23
      go_wp2_with (first
          | (with_reducible refine Lex.wp_region_lex (by kernel_rfl) (by decide +kernel) ?_)
          | (with_reducible refine Lex.fin_on (by kernel_rfl) ?_))
      go_ret
      exact ⟨by rw [Hres.out.2]; rfl, by rw [Hres.out.1]; exact Upd.refl hb⟩
    · have hn2 : (D.data.size : Int) < n := by omega
      have hn3 : decide (n < 0) = false := by simpa using hn
      clear hr hn
      go_enter Try.func23, Try.ntmps23
      go_wp2_with (first
          | (with_reducible refine Lex.wp_region_lex (by kernel_rfl) (by decide +kernel) ?_)
          | (with_reducible refine Lex.fin_on (by kernel_rfl) ?_))
      go_ret
      exact ⟨by rw [Hres.out.2]; rfl, by rw [Hres.out.1]; exact Upd.refl hb⟩
  have hn1 : 0 ≤ n := by omega
  have hn2 : n ≤ (D.data.size : Int) := by omega
  have hn3 : decide (n < 0) = false := by simp; omega
  have hcode : D.truncC n = if D.strikes then 28 else 0 := by simp [DM.truncC, hc, hr]
  have hres : D.truncD n = if D.strikes then D.struck.crash else { D.struck with data := D.data.extract 0 n.toNat, syn := min D.syn n.toNat } := by simp [DM.truncD, hc, hr]
  have Hres := Lib.hid hres; clear hres
  have Hcode := Lib.hid hcode; clear hcode
  rw [hc] at c6
  clear hc hr
  by_cases hx : D.strikes = true
  · skip
    go_enter Try.func23, Try.ntmps23
    go_wp2_with (first
          | (with_reducible refine Lex.wp_region_lex (by kernel_rfl) (by decide +kernel) ?_)
          | (with_reducible refine Lex.fin_on (by kernel_rfl) ?_)
          | (go_at_call 49; refine (strikes_any b D _ hD (by exact hb)).mono ?_; rw [hx]; rintro e w1 ⟨rfl, hU⟩; obtain ⟨d0, d1, d2, d3, d4, d5, d6, dz⟩ := cells7 hU.blk)
          | (go_at_call 50; refine (crash_any b D.struck _ (by rw [(struck_data D).2.1]; exact hD.cap1) (by rw [(struck_data D).1, (struck_data D).2.1]; exact hD.data) (by rw [(struck_data D).1, (struck_data D).2.2.1]; exact hD.syn) (by rw [(struck_data D).2.2.2.1]; exact hD.keep0) (by rw [(struck_data D).2.2.2.1]; exact hD.keep1) hU.blk).mono ?_; rintro e w2 ⟨rfl, hU2⟩))
    go_ret
    refine ⟨by rw [Hcode.out, hx]; rfl, ?_⟩
    rw [Hres.out, hx]
    exact hU.trans hU2
  rw [Bool.not_eq_true] at hx
  by_cases hm : (D.syn : Int) ≤ n
  · have hmm : min D.syn n.toNat = D.syn := by omega
    have Hmm := Lib.hid hmm; clear hmm
    go_enter Try.func23, Try.ntmps23
    go_wp2_with (first
          | (with_reducible refine Lex.wp_region_lex (by kernel_rfl) (by decide +kernel) ?_)
          | (with_reducible refine Lex.fin_on (by kernel_rfl) ?_)
          | (go_at_call 49; refine (strikes_any b D _ hD (by exact hb)).mono ?_; rw [hx]; rintro e w1 ⟨rfl, hU⟩; obtain ⟨d0, d1, d2, d3, d4, d5, d6, dz⟩ := cells7 hU.blk; rw [(struck_data D).1] at d1; rw [(struck_data D).2.2.1] at d2))
    go_ret
    refine ⟨by rw [Hcode.out, hx]; rfl, ?_⟩
    rw [Hres.out, hx]
    refine hU.trans (Upd.cast (Upd.drew (Upd.set (Upd.set (Upd.refl hU.blk)))) ?_)
    simp [DM.obj, Hmm.out]
  · have hmm : min D.syn n.toNat = n.toNat := by omega
    have Hmm := Lib.hid hmm; clear hmm
    go_enter Try.func23, Try.ntmps23
    go_wp2_with (first
          | (with_reducible refine Lex.wp_region_lex (by kernel_rfl) (by decide +kernel) ?_)
          | (with_reducible refine Lex.fin_on (by kernel_rfl) ?_)
          | (go_at_call 49; refine (strikes_any b D _ hD (by exact hb)).mono ?_; rw [hx]; rintro e w1 ⟨rfl, hU⟩; obtain ⟨d0, d1, d2, d3, d4, d5, d6, dz⟩ := cells7 hU.blk; rw [(struck_data D).1] at d1; rw [(struck_data D).2.2.1] at d2))
    go_ret
    refine ⟨by rw [Hcode.out, hx]; rfl, ?_⟩
    rw [Hres.out, hx]
    refine hU.trans (Upd.cast (Upd.drew (Upd.set (Upd.set (Upd.refl hU.blk)))) ?_)
    simp [DM.obj, Hmm.out]
    omega

/-! ### A disk that does not exist -/
theorem nil12 (s : ByteArray) (w : World) : Calls Try.prog 12 #[.pointer none, .string s] w fun e w' => e = .returned (.int .i64 1) ∧ w = w' := by
  go_enter Try.func12, Try.ntmps12
  go_wp2_with (first
          | (with_reducible refine Lex.wp_region_lex (by kernel_rfl) (by decide +kernel) ?_)
          | (with_reducible refine Lex.fin_on (by kernel_rfl) ?_))
  go_ret
  exact ⟨rfl, rfl⟩
theorem nil13 (w : World) : Calls Try.prog 13 #[.pointer none] w fun e w' => e = .returned (.string ByteArray.empty) ∧ w = w' := by
  go_enter Try.func13, Try.ntmps13
  go_wp2_with (first
          | (with_reducible refine Lex.wp_region_lex (by kernel_rfl) (by decide +kernel) ?_)
          | (with_reducible refine Lex.fin_on (by kernel_rfl) ?_))
  go_ret
  exact ⟨rfl, rfl⟩
theorem nil14 (w : World) : Calls Try.prog 14 #[.pointer none] w fun e w' => e = .returned (.int .i64 0) ∧ w = w' := by
  go_enter Try.func14, Try.ntmps14
  go_wp2_with (first
          | (with_reducible refine Lex.wp_region_lex (by kernel_rfl) (by decide +kernel) ?_)
          | (with_reducible refine Lex.fin_on (by kernel_rfl) ?_)
          | (go_at_call 13; refine (nil13 _).mono ?_; rintro e w1 ⟨rfl, rfl⟩))
  go_ret
  exact ⟨rfl, rfl⟩
theorem nil15 (w : World) : Calls Try.prog 15 #[.pointer none] w fun e w' => e = .returned (.int .i64 0) ∧ w = w' := by
  go_enter Try.func15, Try.ntmps15
  go_wp2_with (first
          | (with_reducible refine Lex.wp_region_lex (by kernel_rfl) (by decide +kernel) ?_)
          | (with_reducible refine Lex.fin_on (by kernel_rfl) ?_))
  go_ret
  exact ⟨rfl, rfl⟩
theorem nil20 (n k : Int) (w : World) : Calls Try.prog 20 #[.pointer none, .int .i64 n, .int .i64 k] w fun e w' => e = .returned (.tuple #[]) ∧ w = w' := by
  go_enter Try.func20, Try.ntmps20
  go_wp2_with (first
          | (with_reducible refine Lex.wp_region_lex (by kernel_rfl) (by decide +kernel) ?_)
          | (with_reducible refine Lex.fin_on (by kernel_rfl) ?_))
  go_end0
  exact ⟨rfl, rfl⟩
theorem nil22 (w : World) : Calls Try.prog 22 #[.pointer none] w fun e w' => e = .returned (.int .i64 1) ∧ w = w' := by
  go_enter Try.func22, Try.ntmps22
  go_wp2_with (first
          | (with_reducible refine Lex.wp_region_lex (by kernel_rfl) (by decide +kernel) ?_)
          | (with_reducible refine Lex.fin_on (by kernel_rfl) ?_))
  go_ret
  exact ⟨rfl, rfl⟩
theorem nil23 (n : Int) (w : World) : Calls Try.prog 23 #[.pointer none, .int .i64 n] w fun e w' => e = .returned (.int .i64 1) ∧ w = w' := by
  go_enter Try.func23, Try.ntmps23
  go_wp2_with (first
          | (with_reducible refine Lex.wp_region_lex (by kernel_rfl) (by decide +kernel) ?_)
          | (with_reducible refine Lex.fin_on (by kernel_rfl) ?_))
  go_ret
  exact ⟨rfl, rfl⟩
theorem nil24 (w : World) : Calls Try.prog 24 #[.pointer none] w fun e w' => e = .returned (.bool false) ∧ w = w' := by
  go_enter Try.func24, Try.ntmps24
  go_wp2_with (first
          | (with_reducible refine Lex.wp_region_lex (by kernel_rfl) (by decide +kernel) ?_)
          | (with_reducible refine Lex.fin_on (by kernel_rfl) ?_))
  go_ret
  exact ⟨rfl, rfl⟩
theorem nil21 (w : World) : Calls Try.prog 21 #[.pointer none] w fun e w' => e = .returned (.tuple #[]) ∧ w = w' := by
  go_enter Try.func21, Try.ntmps21
  go_wp2_with (first
          | (with_reducible refine Lex.wp_region_lex (by kernel_rfl) (by decide +kernel) ?_)
          | (with_reducible refine Lex.fin_on (by kernel_rfl) ?_)
          | (go_at_call 24; refine (nil24 _).mono ?_; rintro e w1 ⟨rfl, rfl⟩))
  go_end0
  exact ⟨rfl, rfl⟩

end Go.Proofs.Ytmflngpgmmgohaa
