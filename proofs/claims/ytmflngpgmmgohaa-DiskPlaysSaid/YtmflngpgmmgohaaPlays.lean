/-
  DiskPlays: walks.
-/
import Derived.Test.YtmflngpgmmgohaaDlaw
import Derived.Test.YtmflngpgmmgohaaRel
namespace Go.Proofs.Ytmflngpgmmgohaa
open Go.RowKit

/-- Two disks, one block each. -/
structure Two (b c : Nat) (D : DM) (R : RM) (w : World) : Prop where
  ne : b ≠ c
  hb : w.heap[b]? = some D.obj
  hc : w.heap[c]? = some R.obj

theorem lt_of_blk {w : World} {b : Nat} {o : Obj} (h : w.heap[b]? = some o) : b < w.heap.size := by
  rcases Nat.lt_or_ge b w.heap.size with h' | h'
  · exact h'
  · simp [Array.getElem?_eq_none h'] at h
theorem Two.alloc {b c : Nat} {D : DM} {R : RM} {w : World} (h : Two b c D R w) (o : Obj) : Two b c D R (w.alloc o) :=
  ⟨h.ne, (Below.heap_alloc _ _ _ (lt_of_blk h.hb)).trans h.hb, (Below.heap_alloc _ _ _ (lt_of_blk h.hc)).trans h.hc⟩
theorem Two.drew {b c : Nat} {D : DM} {R : RM} {w : World} (h : Two b c D R w) : Two b c D R w.drew := ⟨h.ne, h.hb, h.hc⟩
theorem Two.drewN {b c : Nat} {D : DM} {R : RM} {w : World} (h : Two b c D R w) (n : Nat) : Two b c D R (w.drewN n) := ⟨h.ne, h.hb, h.hc⟩
theorem Two.left {b c : Nat} {D D' : DM} {R : RM} {w w' : World} (h : Two b c D R w) (u : Upd b D'.obj w w') : Two b c D' R w' :=
  ⟨h.ne, u.blk, (u.other c (Ne.symm h.ne)).trans h.hc⟩
theorem Two.right {b c : Nat} {D : DM} {R R' : RM} {w w' : World} (h : Two b c D R w) (u : Upd c R'.obj w w') : Two b c D R' w' :=
  ⟨h.ne, (u.other b h.ne).trans h.hb, u.blk⟩
theorem Two.below {b c B : Nat} {D : DM} {R : RM} {w w' : World} (h : Two b c D R w) (k : Below B w w') (hb : b < B) (hc : c < B) : Two b c D R w' :=
  ⟨h.ne, (k.block b hb).trans h.hb, (k.block c hc).trans h.hc⟩

theorem quiet_same {P : Program} {f : FuncId} {args : Array Value} {w : World} {v : Value} (h : Calls P f args w fun e w' => e = .returned v ∧ w = w') :
    Calls P f args w fun e w' => e = .returned v ∧ w' = w := h.mono fun _ _ ⟨a, b⟩ => ⟨a, b.symm⟩

set_option maxRecDepth 100000 in
theorem same37 (b c : Nat) (D : DM) (R : RM) (w : World) (hT : Two b c D R w) (hr : Rel D R) :
    Calls Try.prog 19 #[.pointer (some ⟨b, 0, none⟩), .pointer (some ⟨c, 0, none⟩)] w fun e w' => e = .returned (.bool true) ∧ ∃ n, w' = w.drewN n := by
  obtain ⟨c0, c1, c2, c3, c4, c5, c6, fz⟩ := cells7 hT.hc
  rw [hr.data] at c0
  rw [hr.syn] at c1
  rw [hr.crashed] at c5
  have hb := hT.hb
  clear hr
  have HT := Lib.hid hT; clear hT
  have Hb := Lib.hid hb; clear hb
  go_enter Try.func19, Try.ntmps19
  go_wp2
  go_quiet ((first
    | (go_at_call 13; exact Calls.quiet_of_same (quiet_same (read_any b D _ Hb.out)))
    | (go_at_call 14; exact Calls.quiet_of_same (quiet_same (len_any b D _ Hb.out)))
    | (go_at_call 15; exact Calls.quiet_of_same (quiet_same (synced_any b D _ Hb.out)))
    | (go_at_call 24; exact Calls.quiet_of_same (quiet_same (crashed_any b D _ Hb.out)))))
  go_wp2
  go_ret
  exact ⟨rfl, _, rfl⟩


structure ActOk (b c B : Nat) (w : World) (w' : World) : Prop where
  ex : ∃ D R, Two b c D R w' ∧ Rel D R
  below : Below B w w'

theorem box_cell {b i : Nat} {o : Obj} {cs : Array Value} {t : TypeId} {w w1 : World} (u : Upd b o (w.alloc (.cells cs t)) w1) (h : b ≠ w.heap.size) : w1.cell? ⟨w.heap.size, i, none⟩ = cs[i]? := by
  have h1 : w1.heap[w.heap.size]? = some (.cells cs t) := (u.other _ (Ne.symm h)).trans (heap_new w _)
  simp [World.cell?, h1]
theorem bounds64 {n : Int} (h : (Lit.int .i64 n).wf = true) : -9223372036854775808 ≤ n ∧ n ≤ 9223372036854775807 := by
  simp only [Lit.wf, IntKind.min, IntKind.max, IntKind.signed, IntKind.bits, Bool.and_eq_true, decide_eq_true_eq, if_true] at h
  omega

set_option maxRecDepth 100000 in
set_option maxHeartbeats 8000000 in
theorem act37 (b c B : Nat) (D : DM) (R : RM) (do_ n k : Int) (s : ByteArray) (w : World) (hs : s.size ≤ 9223372036854775807) (hn : (Lit.int .i64 n).wf = true) (hk : (Lit.int .i64 k).wf = true) (hT0 : Two b c D R w) (hr0 : Rel D R) (hB : B ≤ b) (hB' : B ≤ c) (hBw : B ≤ w.heap.size) :
    Calls Try.prog 18 #[.pointer (some ⟨b, 0, none⟩), .pointer (some ⟨c, 0, none⟩), .agg #[.int .i64 do_, .int .i64 n, .int .i64 k, .string s]] w fun e w' => e = .returned (.bool true) ∧ ActOk b c B w w' := by
  have hcl := lt_of_blk hT0.hc
  have hbl : b ≠ w.heap.size := by have := lt_of_blk hT0.hb; omega
  obtain ⟨c0, -, -, -, -, -, -, -⟩ := cells7 hT0.hc
  have hz1 : (R.data.size : Int) ≤ 16777216 := by have h1 := hr0.okR.cap1; have h2 := hr0.okR.data; omega
  obtain ⟨n1, n2⟩ := bounds64 hn
  obtain ⟨k1, k2⟩ := bounds64 hk
  have t1 : n.tmod 5 ≤ 9223372036854775807 := by have := Int.tmod_lt_of_pos n (show (0 : Int) < 5 by omega); omega
  have t2 : wrap64 ((IntKind.u64.wrap k).tmod 9) ≤ 9223372036854775807 := by unfold wrap64; omega
  have t3 : -9223372036854775808 ≤ wrap64 ((IntKind.u64.wrap k).tmod 9) := by unfold wrap64; omega
  have t4 : wrap64 (wrap64 ((IntKind.u64.wrap k).tmod 9) - 1) ≤ 9223372036854775807 := by generalize wrap64 ((IntKind.u64.wrap k).tmod 9) = x at *; unfold wrap64; omega
  have hT := Lib.hid hT0; clear hT0
  have hr := Lib.hid hr0; clear hr0
  clear hn hk
  by_cases h1 : s.size ≤ 30
  · skip
    by_cases h2 : (n.tmod 4 != 3) = true
    · skip
      go_enter Try.func18, Try.ntmps18
      go_wp2_with (first
          | (with_reducible refine Lex.wp_region_lex (by kernel_rfl) (by decide +kernel) ?_)
          | (with_reducible refine Lex.fin_on (by kernel_rfl) ?_)
          | (go_at_call 22; refine (sync_any b D _ hr.out.okD (Two.hb (R := R) (c := c) (by first | exact hT.out.alloc _ | exact (hT.out.alloc _).drew))).mono ?_; rintro e w1 ⟨rfl, u1⟩; have T1 : Hid (Two b c D.syncD R _) := Lib.hid (Two.left (R := R) (by first | exact hT.out.alloc _ | exact (hT.out.alloc _).drew) u1); have B1 : Hid (Below B w _) := Lib.hid ((Below.alloc (Below.refl B w) hBw _).trans (u1.below hB)))
          | (go_at_call 23; refine (trunc_any b D _ _ hr.out.okD (Two.hb (R := R) (c := c) (by first | exact hT.out.alloc _ | exact (hT.out.alloc _).drew))).mono ?_; rintro e w1 ⟨rfl, u1⟩; have T1 : Hid (Two b c (D.truncD _) R _) := Lib.hid (Two.left (R := R) (by first | exact hT.out.alloc _ | exact (hT.out.alloc _).drew) u1); have B1 : Hid (Below B w _) := Lib.hid ((Below.alloc (Below.refl B w) hBw _).trans (u1.below hB)))
          | (go_at_call 12; refine (append_any b D _ _ hr.out.okD (by omega) (Two.hb (R := R) (c := c) (by first | exact hT.out.alloc _ | exact (hT.out.alloc _).drew))).mono ?_; rintro e w1 ⟨rfl, u1⟩; have T1 : Hid (Two b c (D.appendD _) R _) := Lib.hid (Two.left (R := R) (by first | exact hT.out.alloc _ | exact (hT.out.alloc _).drew) u1); have B1 : Hid (Below B w _) := Lib.hid ((Below.alloc (Below.refl B w) hBw _).trans (u1.below hB)))
          | (go_at_call 20; refine (arm_any b D _ _ _ (Two.hb (R := R) (c := c) (by first | exact hT.out.alloc _ | exact (hT.out.alloc _).drew))).mono ?_; rintro e w1 ⟨rfl, u1⟩; have T1 : Hid (Two b c (D.armD _ _) R _) := Lib.hid (Two.left (R := R) (by first | exact hT.out.alloc _ | exact (hT.out.alloc _).drew) u1); have B1 : Hid (Below B w _) := Lib.hid ((Below.alloc (Below.refl B w) hBw _).trans (u1.below hB)); have x1 := box_cell (i := 1) u1 hbl; simp at x1)
          | (go_at_call 21; refine (restart_any b D _ (Two.hb (R := R) (c := c) (by first | exact hT.out.alloc _ | exact (hT.out.alloc _).drew))).mono ?_; rintro e w1 ⟨rfl, u1⟩; have T1 : Hid (Two b c D.restartD R _) := Lib.hid (Two.left (R := R) (by first | exact hT.out.alloc _ | exact (hT.out.alloc _).drew) u1); have B1 : Hid (Below B w _) := Lib.hid ((Below.alloc (Below.refl B w) hBw _).trans (u1.below hB)))
          | (go_at_call 51; refine (refsync_any c R _ hr.out.okR T1.out.hc).mono ?_; rw [(rel_sync hr.out).1]; rintro e w2 ⟨rfl, u2⟩; have F2 : Hid (ActOk b c B w _) := Lib.hid ⟨⟨_, _, T1.out.right u2, (rel_sync hr.out).2⟩, B1.out.trans (u2.below hB')⟩)
          | (go_at_call 52; refine (reftrunc_any c R _ _ hr.out.okR T1.out.hc).mono ?_; rw [(rel_trunc hr.out _).1]; rintro e w2 ⟨rfl, u2⟩; have F2 : Hid (ActOk b c B w _) := Lib.hid ⟨⟨_, _, T1.out.right u2, (rel_trunc hr.out _).2⟩, B1.out.trans (u2.below hB')⟩)
          | (go_at_call 41; refine (refappend_any c R _ _ hr.out.okR (by omega) T1.out.hc).mono ?_; rw [(rel_append hr.out _).1]; rintro e w2 ⟨rfl, u2⟩; have F2 : Hid (ActOk b c B w _) := Lib.hid ⟨⟨_, _, T1.out.right u2, (rel_append hr.out _).2⟩, B1.out.trans (u2.below hB')⟩)
          | (go_at_call 45; refine (refarm_any c R _ _ _ T1.out.hc).mono ?_; rintro e w2 ⟨rfl, u2⟩; have F2 : Hid (ActOk b c B w _) := Lib.hid ⟨⟨_, _, T1.out.right u2, (rel_arm hr.out _ _ (by omega) (by omega))⟩, B1.out.trans (u2.below hB')⟩)
          | (go_at_call 46; refine (refrestart_any c R _ T1.out.hc).mono ?_; rintro e w2 ⟨rfl, u2⟩; have F2 : Hid (ActOk b c B w _) := Lib.hid ⟨⟨_, _, T1.out.right u2, (rel_restart hr.out)⟩, B1.out.trans (u2.below hB')⟩))
      all_goals go_ret
      all_goals exact ⟨rfl, F2.out⟩
    · rw [Bool.not_eq_true] at h2
      go_enter Try.func18, Try.ntmps18
      go_wp2_with (first
          | (with_reducible refine Lex.wp_region_lex (by kernel_rfl) (by decide +kernel) ?_)
          | (with_reducible refine Lex.fin_on (by kernel_rfl) ?_)
          | (go_at_call 22; refine (sync_any b D _ hr.out.okD (Two.hb (R := R) (c := c) (by first | exact hT.out.alloc _ | exact (hT.out.alloc _).drew))).mono ?_; rintro e w1 ⟨rfl, u1⟩; have T1 : Hid (Two b c D.syncD R _) := Lib.hid (Two.left (R := R) (by first | exact hT.out.alloc _ | exact (hT.out.alloc _).drew) u1); have B1 : Hid (Below B w _) := Lib.hid ((Below.alloc (Below.refl B w) hBw _).trans (u1.below hB)))
          | (go_at_call 23; refine (trunc_any b D _ _ hr.out.okD (Two.hb (R := R) (c := c) (by first | exact hT.out.alloc _ | exact (hT.out.alloc _).drew))).mono ?_; rintro e w1 ⟨rfl, u1⟩; have T1 : Hid (Two b c (D.truncD _) R _) := Lib.hid (Two.left (R := R) (by first | exact hT.out.alloc _ | exact (hT.out.alloc _).drew) u1); have B1 : Hid (Below B w _) := Lib.hid ((Below.alloc (Below.refl B w) hBw _).trans (u1.below hB)))
          | (go_at_call 12; refine (append_any b D _ _ hr.out.okD (by omega) (Two.hb (R := R) (c := c) (by first | exact hT.out.alloc _ | exact (hT.out.alloc _).drew))).mono ?_; rintro e w1 ⟨rfl, u1⟩; have T1 : Hid (Two b c (D.appendD _) R _) := Lib.hid (Two.left (R := R) (by first | exact hT.out.alloc _ | exact (hT.out.alloc _).drew) u1); have B1 : Hid (Below B w _) := Lib.hid ((Below.alloc (Below.refl B w) hBw _).trans (u1.below hB)))
          | (go_at_call 20; refine (arm_any b D _ _ _ (Two.hb (R := R) (c := c) (by first | exact hT.out.alloc _ | exact (hT.out.alloc _).drew))).mono ?_; rintro e w1 ⟨rfl, u1⟩; have T1 : Hid (Two b c (D.armD _ _) R _) := Lib.hid (Two.left (R := R) (by first | exact hT.out.alloc _ | exact (hT.out.alloc _).drew) u1); have B1 : Hid (Below B w _) := Lib.hid ((Below.alloc (Below.refl B w) hBw _).trans (u1.below hB)); have x1 := box_cell (i := 1) u1 hbl; simp at x1)
          | (go_at_call 21; refine (restart_any b D _ (Two.hb (R := R) (c := c) (by first | exact hT.out.alloc _ | exact (hT.out.alloc _).drew))).mono ?_; rintro e w1 ⟨rfl, u1⟩; have T1 : Hid (Two b c D.restartD R _) := Lib.hid (Two.left (R := R) (by first | exact hT.out.alloc _ | exact (hT.out.alloc _).drew) u1); have B1 : Hid (Below B w _) := Lib.hid ((Below.alloc (Below.refl B w) hBw _).trans (u1.below hB)))
          | (go_at_call 51; refine (refsync_any c R _ hr.out.okR T1.out.hc).mono ?_; rw [(rel_sync hr.out).1]; rintro e w2 ⟨rfl, u2⟩; have F2 : Hid (ActOk b c B w _) := Lib.hid ⟨⟨_, _, T1.out.right u2, (rel_sync hr.out).2⟩, B1.out.trans (u2.below hB')⟩)
          | (go_at_call 52; refine (reftrunc_any c R _ _ hr.out.okR T1.out.hc).mono ?_; rw [(rel_trunc hr.out _).1]; rintro e w2 ⟨rfl, u2⟩; have F2 : Hid (ActOk b c B w _) := Lib.hid ⟨⟨_, _, T1.out.right u2, (rel_trunc hr.out _).2⟩, B1.out.trans (u2.below hB')⟩)
          | (go_at_call 41; refine (refappend_any c R _ _ hr.out.okR (by omega) T1.out.hc).mono ?_; rw [(rel_append hr.out _).1]; rintro e w2 ⟨rfl, u2⟩; have F2 : Hid (ActOk b c B w _) := Lib.hid ⟨⟨_, _, T1.out.right u2, (rel_append hr.out _).2⟩, B1.out.trans (u2.below hB')⟩)
          | (go_at_call 45; refine (refarm_any c R _ _ _ T1.out.hc).mono ?_; rintro e w2 ⟨rfl, u2⟩; have F2 : Hid (ActOk b c B w _) := Lib.hid ⟨⟨_, _, T1.out.right u2, (rel_arm hr.out _ _ (by omega) (by omega))⟩, B1.out.trans (u2.below hB')⟩)
          | (go_at_call 46; refine (refrestart_any c R _ T1.out.hc).mono ?_; rintro e w2 ⟨rfl, u2⟩; have F2 : Hid (ActOk b c B w _) := Lib.hid ⟨⟨_, _, T1.out.right u2, (rel_restart hr.out)⟩, B1.out.trans (u2.below hB')⟩))
      all_goals go_ret
      all_goals exact ⟨rfl, F2.out⟩
  · have hx1 : (s.extract 0 30).size ≤ 30 := by simp; omega
    by_cases h2 : (n.tmod 4 != 3) = true
    · skip
      go_enter Try.func18, Try.ntmps18
      go_wp2_with (first
          | (with_reducible refine Lex.wp_region_lex (by kernel_rfl) (by decide +kernel) ?_)
          | (with_reducible refine Lex.fin_on (by kernel_rfl) ?_)
          | (go_at_call 22; refine (sync_any b D _ hr.out.okD (Two.hb (R := R) (c := c) (by first | exact hT.out.alloc _ | exact (hT.out.alloc _).drew))).mono ?_; rintro e w1 ⟨rfl, u1⟩; have T1 : Hid (Two b c D.syncD R _) := Lib.hid (Two.left (R := R) (by first | exact hT.out.alloc _ | exact (hT.out.alloc _).drew) u1); have B1 : Hid (Below B w _) := Lib.hid ((Below.alloc (Below.refl B w) hBw _).trans (u1.below hB)))
          | (go_at_call 23; refine (trunc_any b D _ _ hr.out.okD (Two.hb (R := R) (c := c) (by first | exact hT.out.alloc _ | exact (hT.out.alloc _).drew))).mono ?_; rintro e w1 ⟨rfl, u1⟩; have T1 : Hid (Two b c (D.truncD _) R _) := Lib.hid (Two.left (R := R) (by first | exact hT.out.alloc _ | exact (hT.out.alloc _).drew) u1); have B1 : Hid (Below B w _) := Lib.hid ((Below.alloc (Below.refl B w) hBw _).trans (u1.below hB)))
          | (go_at_call 12; refine (append_any b D _ _ hr.out.okD (by omega) (Two.hb (R := R) (c := c) (by first | exact hT.out.alloc _ | exact (hT.out.alloc _).drew))).mono ?_; rintro e w1 ⟨rfl, u1⟩; have T1 : Hid (Two b c (D.appendD _) R _) := Lib.hid (Two.left (R := R) (by first | exact hT.out.alloc _ | exact (hT.out.alloc _).drew) u1); have B1 : Hid (Below B w _) := Lib.hid ((Below.alloc (Below.refl B w) hBw _).trans (u1.below hB)))
          | (go_at_call 20; refine (arm_any b D _ _ _ (Two.hb (R := R) (c := c) (by first | exact hT.out.alloc _ | exact (hT.out.alloc _).drew))).mono ?_; rintro e w1 ⟨rfl, u1⟩; have T1 : Hid (Two b c (D.armD _ _) R _) := Lib.hid (Two.left (R := R) (by first | exact hT.out.alloc _ | exact (hT.out.alloc _).drew) u1); have B1 : Hid (Below B w _) := Lib.hid ((Below.alloc (Below.refl B w) hBw _).trans (u1.below hB)); have x1 := box_cell (i := 1) u1 hbl; simp at x1)
          | (go_at_call 21; refine (restart_any b D _ (Two.hb (R := R) (c := c) (by first | exact hT.out.alloc _ | exact (hT.out.alloc _).drew))).mono ?_; rintro e w1 ⟨rfl, u1⟩; have T1 : Hid (Two b c D.restartD R _) := Lib.hid (Two.left (R := R) (by first | exact hT.out.alloc _ | exact (hT.out.alloc _).drew) u1); have B1 : Hid (Below B w _) := Lib.hid ((Below.alloc (Below.refl B w) hBw _).trans (u1.below hB)))
          | (go_at_call 51; refine (refsync_any c R _ hr.out.okR T1.out.hc).mono ?_; rw [(rel_sync hr.out).1]; rintro e w2 ⟨rfl, u2⟩; have F2 : Hid (ActOk b c B w _) := Lib.hid ⟨⟨_, _, T1.out.right u2, (rel_sync hr.out).2⟩, B1.out.trans (u2.below hB')⟩)
          | (go_at_call 52; refine (reftrunc_any c R _ _ hr.out.okR T1.out.hc).mono ?_; rw [(rel_trunc hr.out _).1]; rintro e w2 ⟨rfl, u2⟩; have F2 : Hid (ActOk b c B w _) := Lib.hid ⟨⟨_, _, T1.out.right u2, (rel_trunc hr.out _).2⟩, B1.out.trans (u2.below hB')⟩)
          | (go_at_call 41; refine (refappend_any c R _ _ hr.out.okR (by omega) T1.out.hc).mono ?_; rw [(rel_append hr.out _).1]; rintro e w2 ⟨rfl, u2⟩; have F2 : Hid (ActOk b c B w _) := Lib.hid ⟨⟨_, _, T1.out.right u2, (rel_append hr.out _).2⟩, B1.out.trans (u2.below hB')⟩)
          | (go_at_call 45; refine (refarm_any c R _ _ _ T1.out.hc).mono ?_; rintro e w2 ⟨rfl, u2⟩; have F2 : Hid (ActOk b c B w _) := Lib.hid ⟨⟨_, _, T1.out.right u2, (rel_arm hr.out _ _ (by omega) (by omega))⟩, B1.out.trans (u2.below hB')⟩)
          | (go_at_call 46; refine (refrestart_any c R _ T1.out.hc).mono ?_; rintro e w2 ⟨rfl, u2⟩; have F2 : Hid (ActOk b c B w _) := Lib.hid ⟨⟨_, _, T1.out.right u2, (rel_restart hr.out)⟩, B1.out.trans (u2.below hB')⟩))
      all_goals go_ret
      all_goals exact ⟨rfl, F2.out⟩
    · rw [Bool.not_eq_true] at h2
      go_enter Try.func18, Try.ntmps18
      go_wp2_with (first
          | (with_reducible refine Lex.wp_region_lex (by kernel_rfl) (by decide +kernel) ?_)
          | (with_reducible refine Lex.fin_on (by kernel_rfl) ?_)
          | (go_at_call 22; refine (sync_any b D _ hr.out.okD (Two.hb (R := R) (c := c) (by first | exact hT.out.alloc _ | exact (hT.out.alloc _).drew))).mono ?_; rintro e w1 ⟨rfl, u1⟩; have T1 : Hid (Two b c D.syncD R _) := Lib.hid (Two.left (R := R) (by first | exact hT.out.alloc _ | exact (hT.out.alloc _).drew) u1); have B1 : Hid (Below B w _) := Lib.hid ((Below.alloc (Below.refl B w) hBw _).trans (u1.below hB)))
          | (go_at_call 23; refine (trunc_any b D _ _ hr.out.okD (Two.hb (R := R) (c := c) (by first | exact hT.out.alloc _ | exact (hT.out.alloc _).drew))).mono ?_; rintro e w1 ⟨rfl, u1⟩; have T1 : Hid (Two b c (D.truncD _) R _) := Lib.hid (Two.left (R := R) (by first | exact hT.out.alloc _ | exact (hT.out.alloc _).drew) u1); have B1 : Hid (Below B w _) := Lib.hid ((Below.alloc (Below.refl B w) hBw _).trans (u1.below hB)))
          | (go_at_call 12; refine (append_any b D _ _ hr.out.okD (by omega) (Two.hb (R := R) (c := c) (by first | exact hT.out.alloc _ | exact (hT.out.alloc _).drew))).mono ?_; rintro e w1 ⟨rfl, u1⟩; have T1 : Hid (Two b c (D.appendD _) R _) := Lib.hid (Two.left (R := R) (by first | exact hT.out.alloc _ | exact (hT.out.alloc _).drew) u1); have B1 : Hid (Below B w _) := Lib.hid ((Below.alloc (Below.refl B w) hBw _).trans (u1.below hB)))
          | (go_at_call 20; refine (arm_any b D _ _ _ (Two.hb (R := R) (c := c) (by first | exact hT.out.alloc _ | exact (hT.out.alloc _).drew))).mono ?_; rintro e w1 ⟨rfl, u1⟩; have T1 : Hid (Two b c (D.armD _ _) R _) := Lib.hid (Two.left (R := R) (by first | exact hT.out.alloc _ | exact (hT.out.alloc _).drew) u1); have B1 : Hid (Below B w _) := Lib.hid ((Below.alloc (Below.refl B w) hBw _).trans (u1.below hB)); have x1 := box_cell (i := 1) u1 hbl; simp at x1)
          | (go_at_call 21; refine (restart_any b D _ (Two.hb (R := R) (c := c) (by first | exact hT.out.alloc _ | exact (hT.out.alloc _).drew))).mono ?_; rintro e w1 ⟨rfl, u1⟩; have T1 : Hid (Two b c D.restartD R _) := Lib.hid (Two.left (R := R) (by first | exact hT.out.alloc _ | exact (hT.out.alloc _).drew) u1); have B1 : Hid (Below B w _) := Lib.hid ((Below.alloc (Below.refl B w) hBw _).trans (u1.below hB)))
          | (go_at_call 51; refine (refsync_any c R _ hr.out.okR T1.out.hc).mono ?_; rw [(rel_sync hr.out).1]; rintro e w2 ⟨rfl, u2⟩; have F2 : Hid (ActOk b c B w _) := Lib.hid ⟨⟨_, _, T1.out.right u2, (rel_sync hr.out).2⟩, B1.out.trans (u2.below hB')⟩)
          | (go_at_call 52; refine (reftrunc_any c R _ _ hr.out.okR T1.out.hc).mono ?_; rw [(rel_trunc hr.out _).1]; rintro e w2 ⟨rfl, u2⟩; have F2 : Hid (ActOk b c B w _) := Lib.hid ⟨⟨_, _, T1.out.right u2, (rel_trunc hr.out _).2⟩, B1.out.trans (u2.below hB')⟩)
          | (go_at_call 41; refine (refappend_any c R _ _ hr.out.okR (by omega) T1.out.hc).mono ?_; rw [(rel_append hr.out _).1]; rintro e w2 ⟨rfl, u2⟩; have F2 : Hid (ActOk b c B w _) := Lib.hid ⟨⟨_, _, T1.out.right u2, (rel_append hr.out _).2⟩, B1.out.trans (u2.below hB')⟩)
          | (go_at_call 45; refine (refarm_any c R _ _ _ T1.out.hc).mono ?_; rintro e w2 ⟨rfl, u2⟩; have F2 : Hid (ActOk b c B w _) := Lib.hid ⟨⟨_, _, T1.out.right u2, (rel_arm hr.out _ _ (by omega) (by omega))⟩, B1.out.trans (u2.below hB')⟩)
          | (go_at_call 46; refine (refrestart_any c R _ T1.out.hc).mono ?_; rintro e w2 ⟨rfl, u2⟩; have F2 : Hid (ActOk b c B w _) := Lib.hid ⟨⟨_, _, T1.out.right u2, (rel_restart hr.out)⟩, B1.out.trans (u2.below hB')⟩))
      all_goals go_ret
      all_goals exact ⟨rfl, F2.out⟩

end Go.Proofs.Ytmflngpgmmgohaa
