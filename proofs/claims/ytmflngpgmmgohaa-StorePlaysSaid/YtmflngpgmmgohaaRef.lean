/-
  Walks of the reference's disk.
-/
import Derived.Test.YtmflngpgmmgohaaDiskB
namespace Go.Proofs.Ytmflngpgmmgohaa
open Go.RowKit

structure RM where
  data : ByteArray
  safe : Nat
  cap : Int
  keep : Int
  armed : Bool
  crashed : Bool
  left : Int

def RM.obj (R : RM) : Obj := .cells #[.string R.data, .int .i64 R.safe, .int .i64 R.cap, .int .i64 R.keep, .bool R.armed, .bool R.crashed, .int .i64 R.left] 77

structure RM.Ok (R : RM) : Prop where
  cap0 : 0 ≤ R.cap
  cap1 : R.cap ≤ 16777216
  data : (R.data.size : Int) ≤ R.cap
  safe : R.safe ≤ R.data.size
  left0 : 0 ≤ R.left
  left1 : R.left ≤ 9223372036854775807
  keep1 : R.keep ≤ 9223372036854775807

def RM.booms (R : RM) : Bool := R.armed && decide (R.left ≤ 0)
def RM.boomR (R : RM) (data : ByteArray) : RM :=
  if R.booms then { R with armed := false, crashed := true, data := data.extract 0 (R.safe + min (data.size - R.safe) (max R.keep 0).toNat) }
  else if R.armed then { R with left := R.left - 1 } else R

set_option maxRecDepth 100000 in
theorem boom_any (b : Nat) (R : RM) (data : ByteArray) (w : World) (hR : R.Ok) (hd : R.safe ≤ data.size) (hd2 : data.size ≤ 16777216) (hb : w.heap[b]? = some R.obj) :
    Calls Try.prog 68 #[.pointer (some ⟨b, 0, none⟩), .string data] w fun e w' => e = .returned (.bool R.booms) ∧ Upd b (R.boomR data).obj w w' := by
  obtain ⟨rd, safe, cap, keep, armed, crashed, left⟩ := R
  obtain ⟨h1, h2, h3, h4, h5, h6, h7⟩ := hR
  have hb' := hb
  simp only [RM.obj] at hb
  dsimp only at *
  obtain ⟨c0, c1, c2, c3, c4, c5, c6, fz⟩ := cells7 hb
  cases armed
  case false =>
    go_enter Try.func68, Try.ntmps68
    go_wp2_with (first
          | (with_reducible refine Lex.wp_region_lex (by kernel_rfl) (by decide +kernel) ?_)
          | (with_reducible refine Lex.fin_on (by kernel_rfl) ?_))
    go_ret
    exact ⟨rfl, Upd.refl hb'⟩
  case true =>
    by_cases hl : 0 < left
    · have hbo : (⟨rd, safe, cap, keep, true, crashed, left⟩ : RM).booms = false := by simp [RM.booms]; omega
      have Hbo := Lib.hid hbo; clear hbo
      go_enter Try.func68, Try.ntmps68
      go_wp2_with (first
          | (with_reducible refine Lex.wp_region_lex (by kernel_rfl) (by decide +kernel) ?_)
          | (with_reducible refine Lex.fin_on (by kernel_rfl) ?_))
      go_ret
      refine ⟨by rw [Hbo.out]; rfl, Upd.cast (Upd.set (Upd.refl hb)) ?_⟩
      simp [RM.boomR, Hbo.out, RM.obj]
    · have hbo : (⟨rd, safe, cap, keep, true, crashed, left⟩ : RM).booms = true := by simp [RM.booms]; omega
      have Hbo := Lib.hid hbo; clear hbo
      have hl' : decide (0 < left) = false := by simpa using hl
      by_cases hk : keep < 0
      · have hmx : (max keep 0).toNat = 0 := by omega
        have Hmx := Lib.hid hmx; clear hmx
        go_enter Try.func68, Try.ntmps68
        go_wp2_with (first
          | (with_reducible refine Lex.wp_region_lex (by kernel_rfl) (by decide +kernel) ?_)
          | (with_reducible refine Lex.fin_on (by kernel_rfl) ?_))
        all_goals go_ret
        all_goals refine ⟨by rw [Hbo.out]; rfl, Upd.cast (Upd.drew (Upd.set (Upd.set (Upd.set (Upd.refl hb))))) ?_⟩
        all_goals simp [RM.boomR, Hbo.out, RM.obj, Hmx.out]
        all_goals congr 1
        all_goals omega
      · have hmx : (max keep 0).toNat = keep.toNat := by omega
        have Hmx := Lib.hid hmx; clear hmx
        by_cases hc : (data.size : Int) - safe ≤ keep
        · skip
          go_enter Try.func68, Try.ntmps68
          go_wp2_with (first
          | (with_reducible refine Lex.wp_region_lex (by kernel_rfl) (by decide +kernel) ?_)
          | (with_reducible refine Lex.fin_on (by kernel_rfl) ?_))
          all_goals go_ret
          all_goals refine ⟨by rw [Hbo.out]; rfl, Upd.cast (Upd.drew (Upd.set (Upd.set (Upd.set (Upd.refl hb))))) ?_⟩
          all_goals have : min (data.size - safe) keep.toNat = data.size - safe := by omega
          all_goals simp [RM.boomR, Hbo.out, RM.obj, Hmx.out, this, Nat.add_sub_cancel' hd]
        · skip
          go_enter Try.func68, Try.ntmps68
          go_wp2_with (first
          | (with_reducible refine Lex.wp_region_lex (by kernel_rfl) (by decide +kernel) ?_)
          | (with_reducible refine Lex.fin_on (by kernel_rfl) ?_))
          all_goals go_ret
          all_goals refine ⟨by rw [Hbo.out]; rfl, Upd.cast (Upd.drew (Upd.set (Upd.set (Upd.set (Upd.refl hb))))) ?_⟩
          all_goals have : min (data.size - safe) keep.toNat = keep.toNat := by omega
          all_goals simp [RM.boomR, Hbo.out, RM.obj, Hmx.out, this]
          all_goals congr 1
          all_goals omega


def RM.appendR (R : RM) (s : ByteArray) : RM :=
  if R.crashed then R else if (s.size : Int) > R.cap - R.data.size then R
  else if R.booms then R.boomR (R.data ++ s) else { R.boomR (R.data ++ s) with data := R.data ++ s }
def RM.appendC (R : RM) (s : ByteArray) : Int :=
  if R.crashed then 28 else if (s.size : Int) > R.cap - R.data.size then 27 else if R.booms then 28 else 0
def RM.syncR (R : RM) : RM := if R.crashed then R else if R.booms then R.boomR R.data else { R.boomR R.data with safe := R.data.size }
def RM.syncC (R : RM) : Int := if R.crashed then 28 else if R.booms then 28 else 0
def RM.truncR (R : RM) (n : Int) : RM :=
  if R.crashed then R else if n < 0 ∨ (R.data.size : Int) < n then R
  else if R.booms then R.boomR R.data else { R.boomR R.data with data := R.data.extract 0 n.toNat, safe := min R.safe n.toNat }
def RM.truncC (R : RM) (n : Int) : Int := if R.crashed then 28 else if n < 0 ∨ (R.data.size : Int) < n then 1 else if R.booms then 28 else 0
def RM.armR (R : RM) (n k : Int) : RM := { R with armed := true, left := max n 0, keep := k }
def RM.restartR (R : RM) : RM := if R.crashed then { R with crashed := false, armed := false, safe := R.data.size } else R

theorem boomR_data {R : RM} (x : ByteArray) (h : R.booms = false) : (R.boomR x).data = R.data ∧ (R.boomR x).safe = R.safe := by
  unfold RM.boomR; rw [h]; cases R.armed <;> simp

theorem refnew_any (c : Int) (w : World) :
    Calls Try.prog 17 #[.int .i64 c] w fun e w' => e = .returned (.pointer (some ⟨w.heap.size, 0, none⟩)) ∧
      w.alloc (RM.obj ⟨ByteArray.empty, 0, min (max c 0) 16777216, 0, false, false, 0⟩) = w' := by
  have h1 : c < 0 ∨ (0 ≤ c ∧ c ≤ 16777216) ∨ 16777216 < c := by omega
  unfold RM.obj
  rcases h1 with h1 | ⟨h1, h2⟩ | h1
  · rw [show min (max c 0) 16777216 = 0 by omega]
    go_enter Try.func17, Try.ntmps17
    go_wp2
    go_ret
    exact ⟨rfl, rfl⟩
  · rw [show min (max c 0) 16777216 = c by omega]
    go_enter Try.func17, Try.ntmps17
    go_wp2
    go_ret
    exact ⟨rfl, rfl⟩
  · rw [show min (max c 0) 16777216 = 16777216 by omega]
    go_enter Try.func17, Try.ntmps17
    go_wp2
    go_ret
    exact ⟨rfl, rfl⟩

set_option maxRecDepth 100000 in
theorem refappend_any (b : Nat) (R : RM) (s : ByteArray) (w : World) (hR : R.Ok) (hs : s.size ≤ 140737488355328) (hb : w.heap[b]? = some R.obj) :
    Calls Try.prog 41 #[.pointer (some ⟨b, 0, none⟩), .string s] w fun e w' => e = .returned (.int .i64 (R.appendC s)) ∧ Upd b (R.appendR s).obj w w' := by
  obtain ⟨c0, c1, c2, c3, c4, c5, c6, fz⟩ := cells7 hb
  have h1 := hR.cap0
  have h2 := hR.cap1
  have h3 := hR.data
  have h4 := hR.safe
  by_cases hc : R.crashed = true
  · have hres : R.appendR s = R ∧ R.appendC s = 28 := by simp [RM.appendR, RM.appendC, hc]
    have Hres := Lib.hid hres; clear hres
    rw [hc] at c5
    clear hc
    go_enter Try.func41, Try.ntmps41
    go_wp2_with (first
          | (with_reducible refine Lex.wp_region_lex (by kernel_rfl) (by decide +kernel) ?_)
          | (with_reducible refine Lex.fin_on (by kernel_rfl) ?_))
    go_ret
    exact ⟨by rw [Hres.out.2]; rfl, by rw [Hres.out.1]; exact Upd.refl hb⟩
  rw [Bool.not_eq_true] at hc
  by_cases hf : R.cap - (R.data.size : Int) < (s.size : Int)
  · have hres : R.appendR s = R ∧ R.appendC s = 27 := by simp [RM.appendR, RM.appendC, hc, hf]
    have Hres := Lib.hid hres; clear hres
    rw [hc] at c5
    clear hc
    go_enter Try.func41, Try.ntmps41
    go_wp2_with (first
          | (with_reducible refine Lex.wp_region_lex (by kernel_rfl) (by decide +kernel) ?_)
          | (with_reducible refine Lex.fin_on (by kernel_rfl) ?_))
    go_ret
    exact ⟨by rw [Hres.out.2]; rfl, by rw [Hres.out.1]; exact (Upd.refl hb).drew⟩
  have hcode : R.appendC s = if R.booms then 28 else 0 := by simp [RM.appendC, hc, hf]
  have hres : R.appendR s = if R.booms then R.boomR (R.data ++ s) else { R.boomR (R.data ++ s) with data := R.data ++ s } := by simp [RM.appendR, hc, hf]
  have Hres := Lib.hid hres; clear hres
  have Hcode := Lib.hid hcode; clear hcode
  rw [hc] at c5
  clear hc
  have hz : (R.data ++ s).size = R.data.size + s.size := by simp
  have hz1 : R.safe ≤ (R.data ++ s).size := by omega
  have hz2 : (R.data ++ s).size ≤ 16777216 := by omega
  clear hz
  by_cases hx : R.booms = true
  · skip
    go_enter Try.func41, Try.ntmps41
    go_wp2_with (first
          | (with_reducible refine Lex.wp_region_lex (by kernel_rfl) (by decide +kernel) ?_)
          | (with_reducible refine Lex.fin_on (by kernel_rfl) ?_)
          | (go_at_call 68; refine (boom_any b R _ _ hR hz1 hz2 (by exact hb)).mono ?_; rw [hx]; rintro e w1 ⟨rfl, hU⟩; obtain ⟨d0, d1, d2, d3, d4, d5, d6, dz⟩ := cells7 hU.blk))
    go_ret
    refine ⟨by rw [Hcode.out, hx]; rfl, ?_⟩
    rw [Hres.out, hx]
    exact (Upd.refl hb).drew.trans hU
  · rw [Bool.not_eq_true] at hx
    have hbd := Lib.hid (boomR_data (R.data ++ s) hx)
    go_enter Try.func41, Try.ntmps41
    go_wp2_with (first
          | (with_reducible refine Lex.wp_region_lex (by kernel_rfl) (by decide +kernel) ?_)
          | (with_reducible refine Lex.fin_on (by kernel_rfl) ?_)
          | (go_at_call 68; refine (boom_any b R _ _ hR hz1 hz2 (by exact hb)).mono ?_; rw [hx]; rintro e w1 ⟨rfl, hU⟩; obtain ⟨d0, d1, d2, d3, d4, d5, d6, dz⟩ := cells7 hU.blk; rw [hbd.out.1] at d0))
    go_ret
    refine ⟨by rw [Hcode.out, hx]; rfl, ?_⟩
    rw [Hres.out, hx]
    refine ((Upd.refl hb).drew.trans hU).trans (Upd.cast (Upd.set (Upd.refl hU.blk)) ?_)
    simp [RM.obj]

set_option maxRecDepth 100000 in
theorem refsync_any (b : Nat) (R : RM) (w : World) (hR : R.Ok) (hb : w.heap[b]? = some R.obj) :
    Calls Try.prog 51 #[.pointer (some ⟨b, 0, none⟩)] w fun e w' => e = .returned (.int .i64 R.syncC) ∧ Upd b R.syncR.obj w w' := by
  obtain ⟨c0, c1, c2, c3, c4, c5, c6, fz⟩ := cells7 hb
  have h2 := hR.cap1
  have h3 := hR.data
  have h4 := hR.safe
  by_cases hc : R.crashed = true
  · have hres : R.syncR = R ∧ R.syncC = 28 := by simp [RM.syncR, RM.syncC, hc]
    have Hres := Lib.hid hres; clear hres
    rw [hc] at c5
    clear hc
    go_enter Try.func51, Try.ntmps51
    go_wp2_with (first
          | (with_reducible refine Lex.wp_region_lex (by kernel_rfl) (by decide +kernel) ?_)
          | (with_reducible refine Lex.fin_on (by kernel_rfl) ?_))
    go_ret
    exact ⟨by rw [Hres.out.2]; rfl, by rw [Hres.out.1]; exact Upd.refl hb⟩
  rw [Bool.not_eq_true] at hc
  have hcode : R.syncC = if R.booms then 28 else 0 := by simp [RM.syncC, hc]
  have hres : R.syncR = if R.booms then R.boomR R.data else { R.boomR R.data with safe := R.data.size } := by simp [RM.syncR, hc]
  have Hres := Lib.hid hres; clear hres
  have Hcode := Lib.hid hcode; clear hcode
  rw [hc] at c5
  clear hc
  have hz2 : R.data.size ≤ 16777216 := by omega
  by_cases hx : R.booms = true
  · skip
    go_enter Try.func51, Try.ntmps51
    go_wp2_with (first
          | (with_reducible refine Lex.wp_region_lex (by kernel_rfl) (by decide +kernel) ?_)
          | (with_reducible refine Lex.fin_on (by kernel_rfl) ?_)
          | (go_at_call 68; refine (boom_any b R _ _ hR h4 hz2 (by exact hb)).mono ?_; rw [hx]; rintro e w1 ⟨rfl, hU⟩; obtain ⟨d0, d1, d2, d3, d4, d5, d6, dz⟩ := cells7 hU.blk))
    go_ret
    refine ⟨by rw [Hcode.out, hx]; rfl, ?_⟩
    rw [Hres.out, hx]
    exact hU
  · rw [Bool.not_eq_true] at hx
    have hbd := Lib.hid (boomR_data R.data hx)
    go_enter Try.func51, Try.ntmps51
    go_wp2_with (first
          | (with_reducible refine Lex.wp_region_lex (by kernel_rfl) (by decide +kernel) ?_)
          | (with_reducible refine Lex.fin_on (by kernel_rfl) ?_)
          | (go_at_call 68; refine (boom_any b R _ _ hR h4 hz2 (by exact hb)).mono ?_; rw [hx]; rintro e w1 ⟨rfl, hU⟩; obtain ⟨d0, d1, d2, d3, d4, d5, d6, dz⟩ := cells7 hU.blk; rw [hbd.out.1] at d0))
    go_ret
    refine ⟨by rw [Hcode.out, hx]; rfl, ?_⟩
    rw [Hres.out, hx]
    refine hU.trans (Upd.cast (Upd.set (Upd.refl hU.blk)) ?_)
    simp [RM.obj]

set_option maxRecDepth 100000 in
theorem reftrunc_any (b : Nat) (R : RM) (n : Int) (w : World) (hR : R.Ok) (hb : w.heap[b]? = some R.obj) :
    Calls Try.prog 52 #[.pointer (some ⟨b, 0, none⟩), .int .i64 n] w fun e w' => e = .returned (.int .i64 (R.truncC n)) ∧ Upd b (R.truncR n).obj w w' := by
  obtain ⟨c0, c1, c2, c3, c4, c5, c6, fz⟩ := cells7 hb
  have h2 := hR.cap1
  have h3 := hR.data
  have h4 := hR.safe
  by_cases hc : R.crashed = true
  · have hres : R.truncR n = R ∧ R.truncC n = 28 := by simp [RM.truncR, RM.truncC, hc]
    have Hres := Lib.hid hres; clear hres
    rw [hc] at c5
    clear hc
    go_enter Try.func52, Try.ntmps52
    go_wp2_with (first
          | (with_reducible refine Lex.wp_region_lex (by kernel_rfl) (by decide +kernel) ?_)
          | (with_reducible refine Lex.fin_on (by kernel_rfl) ?_))
    go_ret
    exact ⟨by rw [Hres.out.2]; rfl, by rw [Hres.out.1]; exact Upd.refl hb⟩
  rw [Bool.not_eq_true] at hc
  by_cases hr : n < 0 ∨ (R.data.size : Int) < n
  · have hres : R.truncR n = R ∧ R.truncC n = 1 := by simp [RM.truncR, RM.truncC, hc, hr]
    have Hres := Lib.hid hres; clear hres
    rw [hc] at c5
    clear hc
    by_cases hn : n < 0
    · clear hr
      go_enter Try.func52, Try.ntmps52
      go_wp2_with (first
          | (with_reducible refine Lex.wp_region_lex (by kernel_rfl) (by decide +kernel) ?_)
          | (with_reducible refine Lex.fin_on (by kernel_rfl) ?_))
      go_ret
      exact ⟨by rw [Hres.out.2]; rfl, by rw [Hres.out.1]; exact Upd.refl hb⟩
    · have hn2 : (R.data.size : Int) < n := by omega
      have hn3 : decide (n < 0) = false := by simpa using hn
      clear hr hn
      go_enter Try.func52, Try.ntmps52
      go_wp2_with (first
          | (with_reducible refine Lex.wp_region_lex (by kernel_rfl) (by decide +kernel) ?_)
          | (with_reducible refine Lex.fin_on (by kernel_rfl) ?_))
      go_ret
      exact ⟨by rw [Hres.out.2]; rfl, by rw [Hres.out.1]; exact Upd.refl hb⟩
  have hn1 : 0 ≤ n := by omega
  have hn2 : n ≤ (R.data.size : Int) := by omega
  have hn3 : decide (n < 0) = false := by simp; omega
  have hcode : R.truncC n = if R.booms then 28 else 0 := by simp [RM.truncC, hc, hr]
  have hres : R.truncR n = if R.booms then R.boomR R.data else { R.boomR R.data with data := R.data.extract 0 n.toNat, safe := min R.safe n.toNat } := by simp [RM.truncR, hc, hr]
  have Hres := Lib.hid hres; clear hres
  have Hcode := Lib.hid hcode; clear hcode
  rw [hc] at c5
  clear hc hr
  have hz2 : R.data.size ≤ 16777216 := by omega
  by_cases hx : R.booms = true
  · skip
    go_enter Try.func52, Try.ntmps52
    go_wp2_with (first
          | (with_reducible refine Lex.wp_region_lex (by kernel_rfl) (by decide +kernel) ?_)
          | (with_reducible refine Lex.fin_on (by kernel_rfl) ?_)
          | (go_at_call 68; refine (boom_any b R _ _ hR h4 hz2 (by exact hb)).mono ?_; rw [hx]; rintro e w1 ⟨rfl, hU⟩; obtain ⟨d0, d1, d2, d3, d4, d5, d6, dz⟩ := cells7 hU.blk))
    go_ret
    refine ⟨by rw [Hcode.out, hx]; rfl, ?_⟩
    rw [Hres.out, hx]
    exact hU
  rw [Bool.not_eq_true] at hx
  have hbd := Lib.hid (boomR_data R.data hx)
  by_cases hm : (R.safe : Int) ≤ n
  · have hmm : min R.safe n.toNat = R.safe := by omega
    have Hmm := Lib.hid hmm; clear hmm
    go_enter Try.func52, Try.ntmps52
    go_wp2_with (first
          | (with_reducible refine Lex.wp_region_lex (by kernel_rfl) (by decide +kernel) ?_)
          | (with_reducible refine Lex.fin_on (by kernel_rfl) ?_)
          | (go_at_call 68; refine (boom_any b R _ _ hR h4 hz2 (by exact hb)).mono ?_; rw [hx]; rintro e w1 ⟨rfl, hU⟩; obtain ⟨d0, d1, d2, d3, d4, d5, d6, dz⟩ := cells7 hU.blk; rw [hbd.out.1] at d0; rw [hbd.out.2] at d1))
    go_ret
    refine ⟨by rw [Hcode.out, hx]; rfl, ?_⟩
    rw [Hres.out, hx]
    refine hU.trans (Upd.cast (Upd.set (Upd.set (Upd.refl hU.blk))) ?_)
    simp [RM.obj, Hmm.out]
  · have hmm : min R.safe n.toNat = n.toNat := by omega
    have Hmm := Lib.hid hmm; clear hmm
    go_enter Try.func52, Try.ntmps52
    go_wp2_with (first
          | (with_reducible refine Lex.wp_region_lex (by kernel_rfl) (by decide +kernel) ?_)
          | (with_reducible refine Lex.fin_on (by kernel_rfl) ?_)
          | (go_at_call 68; refine (boom_any b R _ _ hR h4 hz2 (by exact hb)).mono ?_; rw [hx]; rintro e w1 ⟨rfl, hU⟩; obtain ⟨d0, d1, d2, d3, d4, d5, d6, dz⟩ := cells7 hU.blk; rw [hbd.out.1] at d0; rw [hbd.out.2] at d1))
    go_ret
    refine ⟨by rw [Hcode.out, hx]; rfl, ?_⟩
    rw [Hres.out, hx]
    refine hU.trans (Upd.cast (Upd.set (Upd.set (Upd.refl hU.blk))) ?_)
    simp [RM.obj, Hmm.out]
    omega

set_option maxRecDepth 100000 in
theorem refarm_any (b : Nat) (R : RM) (n k : Int) (w : World) (hb : w.heap[b]? = some R.obj) :
    Calls Try.prog 45 #[.pointer (some ⟨b, 0, none⟩), .int .i64 n, .int .i64 k] w fun e w' => e = .returned (.tuple #[]) ∧ Upd b (R.armR n k).obj w w' := by
  obtain ⟨c0, c1, c2, c3, c4, c5, c6, fz⟩ := cells7 hb
  go_enter Try.func45, Try.ntmps45
  go_wp2_with (first
          | (with_reducible refine Lex.wp_region_lex (by kernel_rfl) (by decide +kernel) ?_)
          | (with_reducible refine Lex.fin_on (by kernel_rfl) ?_))
  all_goals go_end0
  all_goals refine ⟨rfl, Upd.cast (Upd.set (Upd.set (Upd.set (Upd.refl hb)))) ?_⟩
  all_goals simp [RM.armR, RM.obj]
  all_goals omega
set_option maxRecDepth 100000 in
theorem refrestart_any (b : Nat) (R : RM) (w : World) (hb : w.heap[b]? = some R.obj) :
    Calls Try.prog 46 #[.pointer (some ⟨b, 0, none⟩)] w fun e w' => e = .returned (.tuple #[]) ∧ Upd b R.restartR.obj w w' := by
  obtain ⟨data, safe, cap, keep, armed, crashed, left⟩ := R
  have hb' := hb
  simp only [RM.obj] at hb
  obtain ⟨c0, c1, c2, c3, c4, c5, c6, fz⟩ := cells7 hb
  cases crashed
  case false =>
    go_enter Try.func46, Try.ntmps46
    go_wp2_with (first
          | (with_reducible refine Lex.wp_region_lex (by kernel_rfl) (by decide +kernel) ?_)
          | (with_reducible refine Lex.fin_on (by kernel_rfl) ?_))
    go_end0
    exact ⟨rfl, Upd.refl hb'⟩
  case true =>
    go_enter Try.func46, Try.ntmps46
    go_wp2_with (first
          | (with_reducible refine Lex.wp_region_lex (by kernel_rfl) (by decide +kernel) ?_)
          | (with_reducible refine Lex.fin_on (by kernel_rfl) ?_))
    go_end0
    refine ⟨rfl, Upd.cast (Upd.set (Upd.set (Upd.set (Upd.refl hb)))) ?_⟩
    simp [RM.restartR, RM.obj]

end Go.Proofs.Ytmflngpgmmgohaa
