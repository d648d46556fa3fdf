/-
  Walks: Open of a store.
-/
import Derived.Test.YtmflngpgmmgohaaSm
namespace Go.Proofs.Ytmflngpgmmgohaa
open Go.RowKit

def openD (l : List Rec) : MD := l.foldl (fun D r => setD D r.1 r.2) (.map [])
theorem openD_snoc (l : List Rec) (r : Rec) : openD (l ++ [r]) = setD (openD l) r.1 r.2 := by simp [openD]

/-- The loop of Open: k records are taken. -/
structure OI (B : Nat) (db : Nat) (Dk : DM) (gv : Value) (L : List Rec) (s mb : Nat) (size : Nat) (w0 : World) (k : Nat) (w : World) : Prop where
  live : Live w s ⟨db, mb, L.length, size, openD (L.take k)⟩ k Dk
  own : w.ownsRow B 44 2 gv L.length (recCells L)
  sep1 : gv.ownBlock ≠ some mb
  but : But [db] w0 w
  new1 : w0.heap.size ≤ s
  new2 : w0.heap.size ≤ mb

theorem recCells_get (l : List Rec) (k : Nat) (h : k < l.length) : (recCells l)[2 * k]? = some (.string (l[k]).1) ∧ (recCells l)[2 * k + 1]? = some (.string (l[k]).2) := by
  induction l generalizing k with
  | nil => exact absurd h (by simp)
  | cons r l ih =>
    match k with
    | 0 => simp [recCells]
    | k + 1 =>
      have := ih k (by simpa using h)
      simp only [recCells, List.flatMap_cons] at this ⊢
      rw [show 2 * (k + 1) = 2 * k + 2 by omega, show 2 * k + 2 + 1 = (2 * k + 1) + 2 by omega]
      simpa using this

set_option maxRecDepth 100000 in
set_option maxHeartbeats 8000000 in
theorem sopen_nil (w : World) :
    Calls Try.prog 34 #[.pointer none] w fun e w' => e = .returned (.tuple #[.pointer none, .int .i64 1]) ∧ w' = w := by
  go_enter Try.func34, Try.ntmps34
  go_wp2_with (first
    | (with_reducible refine Lex.wp_region_lex (by kernel_rfl) (by decide +kernel) ?_)
    | (with_reducible refine Lex.fin_on (by kernel_rfl) ?_))
  go_ret2
  exact ⟨rfl, rfl⟩

def readGo : Nat → ByteArray → List Rec × ByteArray
  | 0, s => ([], s)
  | f + 1, s => match recV s with
    | none => ([], s)
    | some (r, rest) => (r :: (readGo f rest).1, (readGo f rest).2)
def readV (s : ByteArray) : List Rec × ByteArray := readGo s.size s
theorem readGo_none {t : ByteArray} (h : recV t = none) (f : Nat) : readGo f t = ([], t) := by
  cases f with
  | zero => rfl
  | succ f => simp only [readGo, h]
theorem readGo_chain {s t : ByteArray} {l : List Rec} (h : Chain s l t) : ∀ f, readGo (l.length + f) s = (l ++ (readGo f t).1, (readGo f t).2) := by
  induction h with
  | nil => intro f; simp
  | snoc h1 h2 ih =>
    intro f
    rw [List.length_append, List.length_singleton, Nat.add_assoc, Nat.add_comm 1 f, ih (f + 1)]
    simp only [readGo, h2]
    simp
theorem readV_of {s t : ByteArray} {l : List Rec} (h : Chain s l t) (hn : recV t = none) : readV s = (l, t) := by
  have hle := h.le
  have := readGo_chain h (s.size - l.length)
  rw [show l.length + (s.size - l.length) = s.size by omega, readGo_none hn] at this
  simpa [readV] using this
theorem readV_le {s : ByteArray} : (readV s).2.size + (readV s).1.length ≤ s.size := by
  have key : ∀ (f : Nat) (s : ByteArray), (readGo f s).2.size + (readGo f s).1.length ≤ s.size := by
    intro f
    induction f with
    | zero => intro s; simp [readGo]
    | succ f ih =>
      intro s
      rcases h : recV s with _ | ⟨r, rest⟩
      · rw [readGo_none h]; simp
      · have h1 := recV_lt h
        have h2 := ih rest
        simp only [readGo, h, List.length_cons]
        omega
  exact key _ _

theorem recV_sizes {s : ByteArray} {r : Rec} {rest : ByteArray} (h : recV s = some (r, rest)) : r.1.size ≤ s.size ∧ r.2.size ≤ s.size := by
  unfold recV at h
  split at h
  · exact absurd h (by simp)
  · rename_i body rest' h1
    have h5 := cutV_lt h1
    have h6 := openV_size body
    split at h
    · split at h
      · exact absurd h (by simp)
      · rename_i key o h2
        have h7 := cutV_lt h2
        split at h
        · exact absurd h (by simp)
        · rename_i data o2 h3
          have h8 := cutV_lt h3
          split at h
          · simp only [Option.some.injEq, Prod.mk.injEq] at h
            obtain ⟨rfl, _⟩ := h
            dsimp only
            omega
          · exact absurd h (by simp)
    · exact absurd h (by simp)
theorem readV_sizes {s : ByteArray} {r : Rec} (h : r ∈ (readV s).1) : r.1.size ≤ s.size ∧ r.2.size ≤ s.size := by
  have key : ∀ (f : Nat) (s : ByteArray), r ∈ (readGo f s).1 → r.1.size ≤ s.size ∧ r.2.size ≤ s.size := by
    intro f
    induction f with
    | zero => intro s h; simp [readGo] at h
    | succ f ih =>
      intro s h
      rcases h1 : recV s with _ | ⟨r1, rest⟩
      · rw [readGo_none h1] at h; simp at h
      · have h2 := recV_lt h1
        simp only [readGo, h1, List.mem_cons] at h
        rcases h with rfl | h
        · exact recV_sizes h1
        · have := ih rest h; omega
  exact key _ _ h

theorem reads_val (s : ByteArray) (hs : s.size ≤ 1048576) (w : World) :
    Calls Try.prog 26 #[.string s] w fun e w' => ∃ (p : Option Addr) (cap : Nat), e = .returned (.tuple #[.slice p (readV s).1.length cap, .int .i64 ((s.size : Int) - (readV s).2.size)]) ∧ w'.ownsRow w.heap.size 44 2 (.slice p (readV s).1.length cap) (readV s).1.length (recCells (readV s).1) ∧ Below w.heap.size w w' := by
  refine (reads_any s hs w).mono ?_
  rintro e w' ⟨v, l, t, rfl, h1, h2, h3, h4⟩
  rw [readV_of h1 h2]
  have h5 : ∃ p cap, v = .slice p l.length cap := by
    rcases h3.2 with ⟨rfl, h0⟩ | ⟨g, cap, cur, rfl, _⟩
    · exact ⟨none, 0, by rw [h0]⟩
    · exact ⟨_, _, rfl⟩
  obtain ⟨p, cap, rfl⟩ := h5
  exact ⟨p, cap, rfl, h3, h4⟩

/-- What Open leaves. -/
def openN (s : ByteArray) : Nat := s.size - (readV s).2.size
def sopenC (Dk : DM) : Int := if (readV Dk.data).2.size = 0 then 0 else Dk.truncC (openN Dk.data)
def sopenDk (Dk : DM) : DM := if (readV Dk.data).2.size = 0 then Dk else Dk.truncD (openN Dk.data)

set_option maxRecDepth 100000 in
set_option maxHeartbeats 8000000 in
/-- Truncate fails. -/
theorem sopen_bad (db : Nat) (Dk : DM) (w : World) (hok : Dk.Ok) (hb : w.heap[db]? = some Dk.obj) (hz : Dk.data.size ≤ 1048576) (ht : ¬ (readV Dk.data).2.size = 0) (hc : ¬ Dk.truncC (openN Dk.data) = 0) :
    Calls Try.prog 34 #[.pointer (some ⟨db, 0, none⟩)] w fun e w' => e = .returned (.tuple #[.pointer none, .int .i64 (Dk.truncC (openN Dk.data))]) ∧ w'.heap[db]? = some (Dk.truncD (openN Dk.data)).obj ∧ But [db] w w' := by
  have hR := reads_val Dk.data hz w
  have hle := readV_le (s := Dk.data)
  have hn : ((Dk.data.size : Int) - (readV Dk.data).2.size) = (openN Dk.data : Int) := by unfold openN; omega
  rw [hn] at hR
  have hlt : openN Dk.data < Dk.data.size := by unfold openN; omega
  have hT := fun w1 hb => trunc_any db Dk (openN Dk.data) w1 hok hb
  have hd0 : (Dk.truncC (openN Dk.data) == 0) = false := by simpa using hc
  have hRd := read_any db Dk w hb
  have hLn := fun w1 hb => len_any db Dk w1 hb
  generalize Dk.truncC (openN Dk.data) = c at *
  generalize Dk.truncD (openN Dk.data) = Dk' at *
  generalize openN Dk.data = n at *
  generalize (readV Dk.data).1 = L at *
  clear hn hle ht
  have hdb := heap_lt hb
  go_enter Try.func34, Try.ntmps34
  go_wp2_with (first
    | (with_reducible refine Lex.wp_region_lex (by kernel_rfl) (by decide +kernel) ?_)
    | (with_reducible refine Lex.fin_on (by kernel_rfl) ?_)
    | (go_at_call 13; refine hRd.mono ?_; rintro e w0 ⟨rfl, rfl⟩)
    | (go_at_call 26; refine hR.mono ?_; rintro e w1 ⟨p, cap, rfl, hown, hb1⟩; have Hown := Lib.hid hown; clear hown)
    | (go_at_call 14; refine (hLn _ ((hb1.block _ hdb).trans hb)).mono ?_; rintro e w2 ⟨rfl, rfl⟩)
    | (go_at_call 23; refine (hT _ ((hb1.block _ hdb).trans hb)).mono ?_; rintro e w3 ⟨rfl, hU3⟩))
  go_ret2
  exact ⟨rfl, hU3.blk, (But.of_below hb1).trans (But.of_upd hU3 (by simp))⟩
end Go.Proofs.Ytmflngpgmmgohaa
