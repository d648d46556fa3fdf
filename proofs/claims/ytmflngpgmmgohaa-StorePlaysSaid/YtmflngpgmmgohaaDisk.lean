/-
  Walks of package disk: what each method does to the block of a disk.
-/
import Derived.Test.YtmflngpgmmgohaaRows
import Derived.WalkKit
import Derived.WalkLawsBesides
import Derived.WalkSpells
import Derived.Deep.QuietTactic
import Derived.BigQuiet
import Derived.Lib.Hide
import Derived.Deep.DeepFit
import Derived.ChangeAlike
import Derived.Test.YtmflngpgmmgohaaLex
namespace Go.Proofs.Ytmflngpgmmgohaa
open Go.RowKit

/-- Block b, and no other one, has turned. -/
structure Upd (b : Nat) (o : Obj) (w w' : World) : Prop where
  os : w'.os = w.os
  tape : w'.tape = w.tape
  output : w'.output = w.output
  size : w'.heap.size = w.heap.size
  blk : w'.heap[b]? = some o
  other : ∀ k, k ≠ b → w'.heap[k]? = w.heap[k]?

theorem Upd.trans {b : Nat} {o o' : Obj} {w w1 w2 : World} (h : Upd b o w w1) (k : Upd b o' w1 w2) : Upd b o' w w2 :=
  ⟨k.os.trans h.os, k.tape.trans h.tape, k.output.trans h.output, k.size.trans h.size, k.blk, fun i hi => (k.other i hi).trans (h.other i hi)⟩

theorem Upd.refl {b : Nat} {o : Obj} {w : World} (h : w.heap[b]? = some o) : Upd b o w w := ⟨rfl, rfl, rfl, rfl, h, fun _ _ => rfl⟩

theorem Upd.drew {b : Nat} {o : Obj} {w w1 : World} (h : Upd b o w w1) : Upd b o w w1.drew := ⟨h.os, h.tape, h.output, h.size, h.blk, h.other⟩
theorem Upd.drewN {b : Nat} {o : Obj} {w w1 : World} (n : Nat) (h : Upd b o w w1) : Upd b o w (w1.drewN n) := ⟨h.os, h.tape, h.output, h.size, h.blk, h.other⟩

theorem Upd.set {b i : Nat} {v : Value} {c : Array Value} {t : TypeId} {fr : Nat × Nat} {w w1 : World} (h : Upd b (.cells c t fr) w w1) : Upd b (.cells (c.setIfInBounds i v) t fr) w (w1.setCell ⟨b, i, none⟩ v) := by
  refine h.trans ⟨rfl, rfl, rfl, by simp [World.setCell], ?_, ?_⟩
  · simp [World.setCell, Array.getElem?_modify, h.blk]
  · intro k hk
    simp only [World.setCell, Array.getElem?_modify]
    rw [if_neg (by omega)]

theorem Upd.cast {b : Nat} {o o' : Obj} {w w' : World} (h : Upd b o w w') (e : o = o') : Upd b o' w w' := e ▸ h

theorem cells7 {w : World} {b : Nat} {v0 v1 v2 v3 v4 v5 v6 : Value} {t : TypeId} (h : w.heap[b]? = some (.cells #[v0, v1, v2, v3, v4, v5, v6] t)) :
    w.cell? ⟨b, 0, none⟩ = some v0 ∧ w.cell? ⟨b, 1, none⟩ = some v1 ∧ w.cell? ⟨b, 2, none⟩ = some v2 ∧ w.cell? ⟨b, 3, none⟩ = some v3 ∧ w.cell? ⟨b, 4, none⟩ = some v4 ∧ w.cell? ⟨b, 5, none⟩ = some v5 ∧ w.cell? ⟨b, 6, none⟩ = some v6 ∧
    ∀ i, w.frozen? ⟨b, i, none⟩ = false := by
  simp [World.cell?, World.frozen?, h]

structure DM where
  cap : Int
  data : ByteArray
  syn : Nat
  armed : Bool
  left : Int
  keep : Int
  crashed : Bool

def DM.obj (D : DM) : Obj := .cells #[.int .i64 D.cap, .string D.data, .int .i64 D.syn, .bool D.armed, .int .i64 D.left, .int .i64 D.keep, .bool D.crashed] 75

structure DM.Ok (D : DM) : Prop where
  cap0 : 0 ≤ D.cap
  cap1 : D.cap ≤ 16777216
  data : (D.data.size : Int) ≤ D.cap
  syn : D.syn ≤ D.data.size
  left0 : -1 ≤ D.left
  left1 : D.left ≤ 9223372036854775807
  armed : D.armed = true → 0 ≤ D.left
  keep0 : 0 ≤ D.keep
  keep1 : D.keep ≤ 9223372036854775807

def DM.struck (D : DM) : DM := if D.armed then { D with left := D.left - 1 } else D
def DM.strikes (D : DM) : Bool := D.armed && decide (D.left - 1 < 0)
def DM.crash (D : DM) : DM := { D with data := D.data.extract 0 (D.syn + min (D.data.size - D.syn) D.keep.toNat), armed := false, crashed := true }

/-! ### What each call does to the model -/
def DM.appendD (D : DM) (s : ByteArray) : DM :=
  if D.crashed then D else if (s.size : Int) > D.cap - D.data.size then D
  else if D.strikes then ({ D with data := D.data ++ s } : DM).struck.crash else ({ D with data := D.data ++ s } : DM).struck
def DM.appendC (D : DM) (s : ByteArray) : Int :=
  if D.crashed then 28 else if (s.size : Int) > D.cap - D.data.size then 27 else if D.strikes then 28 else 0
def DM.syncD (D : DM) : DM := if D.crashed then D else if D.strikes then D.struck.crash else { D.struck with syn := D.data.size }
def DM.syncC (D : DM) : Int := if D.crashed then 28 else if D.strikes then 28 else 0
def DM.truncD (D : DM) (n : Int) : DM :=
  if D.crashed then D else if n < 0 ∨ (D.data.size : Int) < n then D
  else if D.strikes then D.struck.crash else { D.struck with data := D.data.extract 0 n.toNat, syn := min D.syn n.toNat }
def DM.truncC (D : DM) (n : Int) : Int := if D.crashed then 28 else if n < 0 ∨ (D.data.size : Int) < n then 1 else if D.strikes then 28 else 0
def DM.armD (D : DM) (n k : Int) : DM := if D.crashed then D else { D with armed := true, left := max n 0, keep := max k 0 }
def DM.restartD (D : DM) : DM := if D.crashed then { D with crashed := false, armed := false, syn := D.data.size } else D

theorem new_any (c : Int) (w : World) :
    Calls Try.prog 11 #[.int .i64 c] w fun e w' => e = .returned (.pointer (some ⟨w.heap.size, 0, none⟩)) ∧
      w.alloc (DM.obj ⟨min (max c 0) 16777216, ByteArray.empty, 0, false, 0, 0, false⟩) = w' := by
  have h1 : c < 0 ∨ (0 ≤ c ∧ c ≤ 16777216) ∨ 16777216 < c := by omega
  unfold DM.obj
  rcases h1 with h1 | ⟨h1, h2⟩ | h1
  · rw [show min (max c 0) 16777216 = 0 by omega]
    go_enter Try.func11, Try.ntmps11
    go_wp2
    go_ret
    exact ⟨rfl, rfl⟩
  · rw [show min (max c 0) 16777216 = c by omega]
    go_enter Try.func11, Try.ntmps11
    go_wp2
    go_ret
    exact ⟨rfl, rfl⟩
  · rw [show min (max c 0) 16777216 = 16777216 by omega]
    go_enter Try.func11, Try.ntmps11
    go_wp2
    go_ret
    exact ⟨rfl, rfl⟩

theorem strikes_any (b : Nat) (D : DM) (w : World) (hD : D.Ok) (hb : w.heap[b]? = some D.obj) :
    Calls Try.prog 49 #[.pointer (some ⟨b, 0, none⟩)] w fun e w' => e = .returned (.bool D.strikes) ∧ Upd b D.struck.obj w w' := by
  obtain ⟨cap, data, syn, armed, left, keep, crashed⟩ := D
  obtain ⟨h1, h2, h3, h4, h5, h6, h7, h8, h9⟩ := hD
  simp only [DM.obj, DM.strikes, DM.struck] at *
  have hU := Upd.refl hb
  obtain ⟨c0, c1, c2, c3, c4, c5, c6, fz⟩ := cells7 hb
  cases armed
  · go_enter Try.func49, Try.ntmps49
    go_wp2
    go_ret
    exact ⟨rfl, hU⟩
  · have hF := hU.set (i := 4) (v := .int .i64 (left - 1))
    go_enter Try.func49, Try.ntmps49
    go_wp2
    go_ret
    exact ⟨by simp, hF⟩

set_option maxRecDepth 100000 in
theorem crash_any (b : Nat) (D : DM) (w : World) (hcap : D.cap ≤ 16777216) (hda : (D.data.size : Int) ≤ D.cap) (hsy : D.syn ≤ D.data.size) (hk0 : 0 ≤ D.keep) (hk1 : D.keep ≤ 9223372036854775807) (hb : w.heap[b]? = some D.obj) :
    Calls Try.prog 50 #[.pointer (some ⟨b, 0, none⟩)] w fun e w' => e = .returned (.int .i64 28) ∧ Upd b D.crash.obj w w' := by
  obtain ⟨cap, data, syn, armed, left, keep, crashed⟩ := D
  simp only [DM.obj, DM.crash] at *
  have hU := (Upd.refl hb).drew
  obtain ⟨c0, c1, c2, c3, c4, c5, c6, fz⟩ := cells7 hb
  by_cases hc : (data.size : Int) - syn ≤ keep
  · go_enter Try.func50, Try.ntmps50
    go_wp2_with (first
          | (with_reducible refine Lex.wp_region_lex (by kernel_rfl) (by decide +kernel) ?_)
          | (with_reducible refine Lex.fin_on (by kernel_rfl) ?_))
    go_ret
    refine ⟨rfl, Upd.cast (Upd.drew (Upd.set (Upd.set (Upd.set (Upd.refl hb))))) ?_⟩
    have : min (data.size - syn) keep.toNat = data.size - syn := by omega
    simp [this, Nat.add_sub_cancel' hsy]
  · go_enter Try.func50, Try.ntmps50
    go_wp2_with (first
          | (with_reducible refine Lex.wp_region_lex (by kernel_rfl) (by decide +kernel) ?_)
          | (with_reducible refine Lex.fin_on (by kernel_rfl) ?_))
    go_ret
    refine ⟨rfl, Upd.cast (Upd.drew (Upd.set (Upd.set (Upd.set (Upd.refl hb))))) ?_⟩
    have : min (data.size - syn) keep.toNat = keep.toNat := by omega
    simp [this]
    congr 1
    omega

theorem DM.Ok.struck {D : DM} (h : D.Ok) (hs : D.strikes = false) : D.struck.Ok := by
  obtain ⟨cap, data, syn, armed, left, keep, crashed⟩ := D
  obtain ⟨h1, h2, h3, h4, h5, h6, h7, h8, h9⟩ := h
  unfold DM.struck
  cases armed
  · exact ⟨h1, h2, h3, h4, h5, h6, h7, h8, h9⟩
  · simp [DM.strikes] at *
    exact ⟨h1, h2, h3, h4, by simp; omega, by simp; omega, by simp; omega, h8, h9⟩
theorem struck_data (D : DM) : D.struck.data = D.data ∧ D.struck.cap = D.cap ∧ D.struck.syn = D.syn ∧ D.struck.keep = D.keep ∧ D.struck.crashed = D.crashed := by
  unfold DM.struck; split <;> simp

set_option maxRecDepth 100000 in
theorem append_any (b : Nat) (D : DM) (s : ByteArray) (w : World) (hD : D.Ok) (hs : s.size ≤ 140737488355328) (hb : w.heap[b]? = some D.obj) :
    Calls Try.prog 12 #[.pointer (some ⟨b, 0, none⟩), .string s] w fun e w' => e = .returned (.int .i64 (D.appendC s)) ∧ Upd b (D.appendD s).obj w w' := by
  obtain ⟨cap, data, syn, armed, left, keep, crashed⟩ := D
  have hD' := hD
  obtain ⟨h1, h2, h3, h4, h5, h6, h7, h8, h9⟩ := hD
  have hb' := hb
  simp only [DM.obj] at hb
  dsimp only at *
  obtain ⟨c0, c1, c2, c3, c4, c5, c6, fz⟩ := cells7 hb
  cases crashed
  case true =>
    go_enter Try.func12, Try.ntmps12
    go_wp2
    go_ret
    exact ⟨rfl, Upd.refl hb'⟩
  case false =>
    by_cases hf : cap - (data.size : Int) < (s.size : Int)
    · go_enter Try.func12, Try.ntmps12
      go_wp2_with (first
          | (with_reducible refine Lex.wp_region_lex (by kernel_rfl) (by decide +kernel) ?_)
          | (with_reducible refine Lex.fin_on (by kernel_rfl) ?_))
      go_ret
      refine ⟨by simp [DM.appendC, hf], Upd.cast (Upd.drew (Upd.refl hb')) ?_⟩
      simp [DM.appendD, hf]
    · have hok1 : (⟨cap, data ++ s, syn, armed, left, keep, false⟩ : DM).Ok := ⟨h1, h2, by simp; omega, by simp; omega, h5, h6, h7, h8, h9⟩
      generalize hD1 : (⟨cap, data ++ s, syn, armed, left, keep, false⟩ : DM) = D1 at *
      have hst : (⟨cap, data, syn, armed, left, keep, false⟩ : DM).strikes = D1.strikes := by rw [← hD1]; rfl
      have hu1 : ∀ wx, wx = (w.setCell ⟨b, 1, none⟩ (.string (data ++ s))).drew → Upd b D1.obj w wx := by
        rintro _ rfl
        refine Upd.cast (Upd.drew (Upd.set (Upd.refl hb))) ?_
        rw [← hD1]
        simp [DM.obj]
      have hres : (⟨cap, data, syn, armed, left, keep, false⟩ : DM).appendD s = if D1.strikes then D1.struck.crash else D1.struck := by simp [DM.appendD, hf, hst, ← hD1]
      have hcode : (⟨cap, data, syn, armed, left, keep, false⟩ : DM).appendC s = if D1.strikes then 28 else 0 := by simp [DM.appendC, hf, hst]
      clear hst
      have Hres := Lib.hid hres; clear hres
      have Hcode := Lib.hid hcode; clear hcode
      have HD1 := Lib.hid hD1; clear hD1
      by_cases hx : D1.strikes = true
      · go_enter Try.func12, Try.ntmps12
        go_wp2_with (first
          | (with_reducible refine Lex.wp_region_lex (by kernel_rfl) (by decide +kernel) ?_)
          | (with_reducible refine Lex.fin_on (by kernel_rfl) ?_)
          | (go_at_call 49; refine (strikes_any b D1 _ hok1 (hu1 _ rfl).blk).mono ?_; rw [hx]; rintro e w1 ⟨rfl, hU⟩)
          | (go_at_call 50; refine (crash_any b D1.struck _ (by rw [(struck_data D1).2.1]; exact hok1.cap1) (by rw [(struck_data D1).1, (struck_data D1).2.1]; exact hok1.data) (by rw [(struck_data D1).1, (struck_data D1).2.2.1]; exact hok1.syn) (by rw [(struck_data D1).2.2.2.1]; exact hok1.keep0) (by rw [(struck_data D1).2.2.2.1]; exact hok1.keep1) hU.blk).mono ?_; rintro e w2 ⟨rfl, hU2⟩))
        go_ret
        refine ⟨by rw [Hcode.out, hx]; rfl, ?_⟩
        rw [Hres.out, hx]
        exact ((hu1 _ rfl).trans hU).trans hU2
      · rw [Bool.not_eq_true] at hx
        go_enter Try.func12, Try.ntmps12
        go_wp2_with (first
          | (with_reducible refine Lex.wp_region_lex (by kernel_rfl) (by decide +kernel) ?_)
          | (with_reducible refine Lex.fin_on (by kernel_rfl) ?_)
          | (go_at_call 49; refine (strikes_any b D1 _ hok1 (hu1 _ rfl).blk).mono ?_; rw [hx]; rintro e w1 ⟨rfl, hU⟩))
        go_ret
        refine ⟨by rw [Hcode.out, hx]; rfl, ?_⟩
        rw [Hres.out, hx]
        exact (hu1 _ rfl).trans hU

end Go.Proofs.Ytmflngpgmmgohaa
