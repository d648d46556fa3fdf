/-
  Walks: Open of a store, the loop.
-/
import Derived.Test.YtmflngpgmmgohaaSn
namespace Go.Proofs.Ytmflngpgmmgohaa
open Go.RowKit

theorem OI.start {db : Nat} {Dk : DM} {gv : Value} {L : List Rec} {size : Nat} {w0 w : World} {B : Nat} (hd : w.heap[db]? = some Dk.obj) (ho : w.ownsRow B 44 2 gv L.length (recCells L)) (hb : But [db] w0 w) :
    OI B db Dk gv L (w.heap.size + 1) w.heap.size size w0 0 ((w.alloc (.map #[] 0)).alloc (.cells #[.pointer (some ⟨db, 0, none⟩), .map (some w.heap.size), .int .i64 L.length, .int .i64 size] 91)) := by
  have hdb := heap_lt hd
  refine ⟨⟨⟨heap_alloc2_new _ _ _, ?_, by simp, by simp; omega, by simp; omega⟩, ?_⟩, (ho.alloc _).alloc _, fun e => ?_, (hb.alloc _).alloc _, by have := hb.size; omega, hb.size⟩
  · exact World.ownsMap.alloc (World.ownsMap_made w Try.prog 9 (plainElem Try.prog 9)) _
  · show ((w.alloc (.map #[] 0)).alloc _).heap[db]? = _
    rw [heap_alloc_old _ _ (by simp; omega), heap_alloc_old _ _ hdb]; exact hd
  · have := (ho.lt _ e).2; omega
theorem OI.alloc {B db : Nat} {Dk : DM} {gv : Value} {L : List Rec} {s mb size k : Nat} {w0 w : World} (h : OI B db Dk gv L s mb size w0 k w) (o : Obj) : OI B db Dk gv L s mb size w0 k (w.alloc o) :=
  ⟨h.live.below ((Below.refl _ _).alloc (Nat.le_refl _) o), h.own.alloc o, h.sep1, h.but.alloc o, h.new1, h.new2⟩
theorem OI.next {B db : Nat} {Dk : DM} {gv : Value} {L : List Rec} {s mb size k : Nat} {w0 w w' : World} (h : OI B db Dk gv L s mb size w0 k w) (hlt : k < L.length)
    (hs : StoreAt w' s ⟨db, mb, L.length, size, setD (openD (L.take k)) (L[k]).1 (L[k]).2⟩ (k + 1)) (ht : w.mapTurned w' mb) : OI B db Dk gv L s mb size w0 (k + 1) w' := by
  refine ⟨?_, h.own.kept ht.grown (.inr h.sep1), h.sep1, ?_, h.new1, h.new2⟩
  · rw [List.take_succ_eq_append_getElem hlt, openD_snoc]
    exact h.live.set hs ht
  · have hg := ht.grown
    exact ⟨hg.os.trans h.but.os, hg.tape.trans h.but.tape, hg.output.trans h.but.output, Nat.le_trans h.but.size hg.size, fun i hi hn => (hg.block i (Nat.lt_of_lt_of_le hi h.but.size) (fun e => by have h2 := h.new2; simp at e; omega)).trans (h.but.block i hi hn)⟩

set_option maxRecDepth 100000 in
set_option maxHeartbeats 8000000 in
theorem sopen_whole (db : Nat) (Dk : DM) (w : World) (_hok : Dk.Ok) (hb : w.heap[db]? = some Dk.obj) (hz : Dk.data.size ≤ 1048576) (ht : (readV Dk.data).2.size = 0) :
    Calls Try.prog 34 #[.pointer (some ⟨db, 0, none⟩)] w fun e w' => ∃ s mb, e = .returned (.tuple #[.pointer (some ⟨s, 0, none⟩), .int .i64 0]) ∧ Live w' s ⟨db, mb, (readV Dk.data).1.length, openN Dk.data, openD (readV Dk.data).1⟩ (readV Dk.data).1.length Dk ∧ But [db] w w' ∧ w.heap.size ≤ s ∧ w.heap.size ≤ mb := by
  have hR := reads_val Dk.data hz w
  have hle := readV_le (s := Dk.data)
  have hn : ((Dk.data.size : Int) - (readV Dk.data).2.size) = (openN Dk.data : Int) := by unfold openN; omega
  rw [hn] at hR
  have hL : (readV Dk.data).1.length ≤ 1048576 := by omega
  have hsz : ∀ r ∈ (readV Dk.data).1, r.1.size ≤ 1048576 ∧ r.2.size ≤ 1048576 := fun r hr => by have := readV_sizes hr; omega
  have hRd := read_any db Dk w hb
  have hLn := fun w1 hb => len_any db Dk w1 hb
  have hlt : openN Dk.data = Dk.data.size := by unfold openN; omega
  rw [← hlt] at hLn hz
  generalize openN Dk.data = n at *
  generalize (readV Dk.data).1 = L at *
  clear hn hle ht hlt
  have hdb := heap_lt hb
  go_enter Try.func34, Try.ntmps34
  go_wp2_with (first
    | (with_reducible refine Lex.wp_region_lex (by kernel_rfl) (by decide +kernel) ?_)
    | (with_reducible refine Lex.fin_on (by kernel_rfl) ?_)
    | (go_at_call 13; refine hRd.mono ?_; rintro e w0 ⟨rfl, rfl⟩)
    | (go_at_call 26; refine hR.mono ?_; rintro e w1 ⟨p, cap, rfl, hown, hb1⟩; have Hown := Lib.hid hown; clear hown)
    | (go_at_call 14; refine (hLn _ ((hb1.block _ hdb).trans hb)).mono ?_; rintro e w2 ⟨rfl, rfl⟩; have hmk := run_makeMap (P := Try.prog) 89 w1))
  have hI := OI.start (size := n) ((hb1.block _ hdb).trans hb) Hown.out (But.of_below hb1 (S := [db]))
  go_loopw [37] (fun i wr => ∃ k : Nat, k ≤ L.length ∧ i = .int .i64 k ∧ OI w.heap.size db Dk (.slice p L.length cap) L (w1.heap.size + 1) w1.heap.size n w k wr) (fun i _ => L.length - (intOf i).toNat)
  case atStart => exact ⟨0, by omega, rfl, hI⟩
  case round =>
    obtain ⟨k, hk, rfl, hinv⟩ := hrel
    by_cases hlt : k < L.length
    · have hg := recCells_get L k hlt
      have hp : ∃ g, p = some ⟨g, 0, none⟩ := by
        rcases hinv.own.2 with ⟨_, h0⟩ | ⟨g, c, cur, h1, _⟩
        · omega
        · simp only [Value.slice.injEq] at h1; exact ⟨g, h1.1⟩
      obtain ⟨g, rfl⟩ := hp
      have hc0 := (hinv.own.cellAt (k * 2) (by omega)).trans ((congrArg (fun j => (recCells L)[j]?) (Nat.mul_comm k 2)).trans hg.1)
      have hc1 := (hinv.own.cellAt (k * 2 + 1) (by omega)).trans ((congrArg (fun j => (recCells L)[j + 1]?) (Nat.mul_comm k 2)).trans hg.2)
      have hrs := hsz L[k] (List.getElem_mem hlt)
      have Hinv := Lib.hid hinv; clear hinv hg hI
      go_wp2_with (first
        | (with_reducible refine Lex.wp_region_lex (by kernel_rfl) (by decide +kernel) ?_)
        | (with_reducible refine Lex.fin_on (by kernel_rfl) ?_)
        | (go_at_call 62; refine (set_any (w1.heap.size + 1) _ k _ _ _ (Hinv.out.alloc _).live.st (by omega) hrs.1 hrs.2).mono ?_; rintro e w5 ⟨rfl, hs5, ht5⟩; have Hs5 := Lib.hid hs5; clear hs5))
      exact ⟨⟨k + 1, by omega, by go_num, (Hinv.out.alloc _).next hlt Hs5.out ht5⟩, by simp [intOf]; omega⟩
    · obtain rfl : k = L.length := by omega
      have Hinv := Lib.hid hinv; clear hinv
      go_wp2_with (first
        | (with_reducible refine Lex.wp_region_lex (by kernel_rfl) (by decide +kernel) ?_)
        | (with_reducible refine Lex.fin_on (by kernel_rfl) ?_))
      go_ret2
      have hl := Hinv.out.live
      rw [List.take_length] at hl
      exact ⟨_, _, rfl, hl, Hinv.out.but, Hinv.out.new1, Hinv.out.new2⟩

set_option maxRecDepth 100000 in
set_option maxHeartbeats 8000000 in
theorem sopen_cut (db : Nat) (Dk : DM) (w : World) (hok : Dk.Ok) (hb : w.heap[db]? = some Dk.obj) (hz : Dk.data.size ≤ 1048576) (ht : ¬ (readV Dk.data).2.size = 0) (hc : Dk.truncC (openN Dk.data) = 0) :
    Calls Try.prog 34 #[.pointer (some ⟨db, 0, none⟩)] w fun e w' => ∃ s mb, e = .returned (.tuple #[.pointer (some ⟨s, 0, none⟩), .int .i64 0]) ∧ Live w' s ⟨db, mb, (readV Dk.data).1.length, openN Dk.data, openD (readV Dk.data).1⟩ (readV Dk.data).1.length (Dk.truncD (openN Dk.data)) ∧ But [db] w w' ∧ w.heap.size ≤ s ∧ w.heap.size ≤ mb := by
  have hR := reads_val Dk.data hz w
  have hle := readV_le (s := Dk.data)
  have hn : ((Dk.data.size : Int) - (readV Dk.data).2.size) = (openN Dk.data : Int) := by unfold openN; omega
  rw [hn] at hR
  have hL : (readV Dk.data).1.length ≤ 1048576 := by omega
  have hsz : ∀ r ∈ (readV Dk.data).1, r.1.size ≤ 1048576 ∧ r.2.size ≤ 1048576 := fun r hr => by have := readV_sizes hr; omega
  have hRd := read_any db Dk w hb
  have hLn := fun w1 hb => len_any db Dk w1 hb
  have hlt : openN Dk.data < Dk.data.size := by unfold openN; omega
  have hT := fun w1 hb => trunc_any db Dk (openN Dk.data) w1 hok hb
  rw [hc] at hT
  clear hc
  generalize Dk.truncD (openN Dk.data) = Dk' at *
  generalize openN Dk.data = n at *
  generalize (readV Dk.data).1 = L at *
  clear hn hle ht
  have hdb := heap_lt hb
  go_enter Try.func34, Try.ntmps34
  go_wp2_with (first
    | (with_reducible refine Lex.wp_region_lex (by kernel_rfl) (by decide +kernel) ?_)
    | (with_reducible refine Lex.fin_on (by kernel_rfl) ?_)
    | (go_at_call 13; refine hRd.mono ?_; rintro e w0 ⟨rfl, rfl⟩)
    | (go_at_call 26; refine hR.mono ?_; rintro e w1 ⟨p, cap, rfl, hown, hb1⟩; have Hown := Lib.hid hown; clear hown)
    | (go_at_call 14; refine (hLn _ ((hb1.block _ hdb).trans hb)).mono ?_; rintro e w2 ⟨rfl, rfl⟩)
    | (go_at_call 23; refine (hT _ ((hb1.block _ hdb).trans hb)).mono ?_; rintro e w3 ⟨rfl, hU3⟩; have hmk := run_makeMap (P := Try.prog) 89 w3))
  have hg3 : w1.grownBy w3 (some db) := ⟨hU3.os, hU3.tape, hU3.output, by rw [hU3.size]; exact Nat.le_refl _, fun i _ hn => hU3.other i fun e => hn (by rw [e])⟩
  have hown3 := Hown.out.kept hg3 (.inr fun e => by have := (Hown.out.lt _ e).1; omega)
  have hI := OI.start (size := n) hU3.blk hown3 ((But.of_below hb1 (S := [db])).trans (But.of_upd hU3 (by simp)))
  go_loopw [37] (fun i wr => ∃ k : Nat, k ≤ L.length ∧ i = .int .i64 k ∧ OI w.heap.size db Dk' (.slice p L.length cap) L (w3.heap.size + 1) w3.heap.size n w k wr) (fun i _ => L.length - (intOf i).toNat)
  case atStart => exact ⟨0, by omega, rfl, hI⟩
  case round =>
    obtain ⟨k, hk, rfl, hinv⟩ := hrel
    by_cases hlt : k < L.length
    · have hg := recCells_get L k hlt
      have hp : ∃ g, p = some ⟨g, 0, none⟩ := by
        rcases hinv.own.2 with ⟨_, h0⟩ | ⟨g, c, cur, h1, _⟩
        · omega
        · simp only [Value.slice.injEq] at h1; exact ⟨g, h1.1⟩
      obtain ⟨g, rfl⟩ := hp
      have hc0 := (hinv.own.cellAt (k * 2) (by omega)).trans ((congrArg (fun j => (recCells L)[j]?) (Nat.mul_comm k 2)).trans hg.1)
      have hc1 := (hinv.own.cellAt (k * 2 + 1) (by omega)).trans ((congrArg (fun j => (recCells L)[j + 1]?) (Nat.mul_comm k 2)).trans hg.2)
      have hrs := hsz L[k] (List.getElem_mem hlt)
      have Hinv := Lib.hid hinv; clear hinv hg hI
      go_wp2_with (first
        | (with_reducible refine Lex.wp_region_lex (by kernel_rfl) (by decide +kernel) ?_)
        | (with_reducible refine Lex.fin_on (by kernel_rfl) ?_)
        | (go_at_call 62; refine (set_any (w3.heap.size + 1) _ k _ _ _ (Hinv.out.alloc _).live.st (by omega) hrs.1 hrs.2).mono ?_; rintro e w5 ⟨rfl, hs5, ht5⟩; have Hs5 := Lib.hid hs5; clear hs5))
      exact ⟨⟨k + 1, by omega, by go_num, (Hinv.out.alloc _).next hlt Hs5.out ht5⟩, by simp [intOf]; omega⟩
    · obtain rfl : k = L.length := by omega
      have Hinv := Lib.hid hinv; clear hinv
      go_wp2_with (first
        | (with_reducible refine Lex.wp_region_lex (by kernel_rfl) (by decide +kernel) ?_)
        | (with_reducible refine Lex.fin_on (by kernel_rfl) ?_))
      go_ret2
      have hl := Hinv.out.live
      rw [List.take_length] at hl
      exact ⟨_, _, rfl, hl, Hinv.out.but, Hinv.out.new1, Hinv.out.new2⟩

/-- What a call of Open answers. -/
theorem sopen_any (db : Nat) (Dk : DM) (w : World) (hok : Dk.Ok) (hb : w.heap[db]? = some Dk.obj) (hz : Dk.data.size ≤ 1048576) :
    Calls Try.prog 34 #[.pointer (some ⟨db, 0, none⟩)] w fun e w' => But [db] w w' ∧ w'.heap[db]? = some (sopenDk Dk).obj ∧
      ((¬ sopenC Dk = 0 ∧ e = .returned (.tuple #[.pointer none, .int .i64 (sopenC Dk)])) ∨
       (sopenC Dk = 0 ∧ ∃ s mb, e = .returned (.tuple #[.pointer (some ⟨s, 0, none⟩), .int .i64 0]) ∧ Live w' s ⟨db, mb, (readV Dk.data).1.length, openN Dk.data, openD (readV Dk.data).1⟩ (readV Dk.data).1.length (sopenDk Dk) ∧ w.heap.size ≤ s ∧ w.heap.size ≤ mb)) := by
  by_cases ht : (readV Dk.data).2.size = 0
  · have e1 : sopenC Dk = 0 := by unfold sopenC; rw [if_pos ht]
    have e2 : sopenDk Dk = Dk := by unfold sopenDk; rw [if_pos ht]
    refine (sopen_whole db Dk w hok hb hz ht).mono ?_
    rintro e w' ⟨s, mb, rfl, h1, h2, h3, h4⟩
    rw [e2]
    exact ⟨h2, h1.dk, .inr ⟨e1, s, mb, rfl, h1, h3, h4⟩⟩
  · have e1 : sopenC Dk = Dk.truncC (openN Dk.data) := by unfold sopenC; rw [if_neg ht]
    have e2 : sopenDk Dk = Dk.truncD (openN Dk.data) := by unfold sopenDk; rw [if_neg ht]
    rw [e1, e2]
    by_cases hc : Dk.truncC (openN Dk.data) = 0
    · refine (sopen_cut db Dk w hok hb hz ht hc).mono ?_
      rintro e w' ⟨s, mb, rfl, h1, h2, h3, h4⟩
      exact ⟨h2, h1.dk, .inr ⟨hc, s, mb, rfl, h1, h3, h4⟩⟩
    · refine (sopen_bad db Dk w hok hb hz ht hc).mono ?_
      rintro e w' ⟨rfl, h1, h2⟩
      exact ⟨h2, h1, .inl ⟨hc, rfl⟩⟩
end Go.Proofs.Ytmflngpgmmgohaa
