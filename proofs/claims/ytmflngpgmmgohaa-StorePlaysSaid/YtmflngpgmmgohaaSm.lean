/-
  Walks: Put.
-/
import Derived.Test.YtmflngpgmmgohaaSl
namespace Go.Proofs.Ytmflngpgmmgohaa
open Go.RowKit

/-- What Put leaves of the store and of the disk. -/
def putC (Dk : DM) (k d : ByteArray) : Int := if Dk.appendC (frameB k d) = 0 then (Dk.appendD (frameB k d)).syncC else Dk.appendC (frameB k d)
def putDk (Dk : DM) (k d : ByteArray) : DM := if Dk.appendC (frameB k d) = 0 then (Dk.appendD (frameB k d)).syncD else Dk.appendD (frameB k d)
def putS (S : SM) (Dk : DM) (k d : ByteArray) : SM := if putC Dk k d = 0 then { S with D := setD S.D k d, n := S.n + 1, size := S.size + (frameB k d).size } else S

theorem DM.Ok.appendOk {D : DM} {s : ByteArray} (h : D.Ok) (h0 : D.appendC s = 0) : (D.appendD s).Ok := by
  unfold DM.appendC at h0
  unfold DM.appendD
  split at h0
  · exact absurd h0 (by decide)
  · split at h0
    · exact absurd h0 (by decide)
    · split at h0
      · exact absurd h0 (by decide)
      · rename_i h1 h2 h3
        rw [if_neg h1, if_neg h2, if_neg h3]
        have h4 : ({ D with data := D.data ++ s } : DM).Ok := ⟨h.cap0, h.cap1, by have := h.data; simp; omega, by have := h.syn; simp; omega, h.left0, h.left1, h.armed, h.keep0, h.keep1⟩
        exact h4.struck (by simpa [DM.strikes] using h3)

theorem frameB_size {k d : ByteArray} (hk : k.size ≤ 65536) (hd : d.size ≤ 65536) : (frameB k d).size ≤ 131100 := by
  have h1 := textB_le (s := k) (by omega)
  have h2 := textB_le (s := d) (by omega)
  have h3 : (textB k ++ textB d).size ≤ 131082 := by rw [ByteArray.size_append]; omega
  have h4 := sealB_size (textB k ++ textB d)
  have := textB_le (s := sealB (textB k ++ textB d)) (by omega)
  unfold frameB; omega

/-- What a call of Put finds: a store, its disk. -/
structure Live (w : World) (s : Nat) (S : SM) (nn : Nat) (Dk : DM) : Prop where
  st : StoreAt w s S nn
  dk : w.heap[S.db]? = some Dk.obj

theorem heap_lt {w : World} {b : Nat} {o : Obj} (h : w.heap[b]? = some o) : b < w.heap.size := (Array.getElem?_eq_some_iff.1 h).1
theorem Live.upd {w w' : World} {s nn : Nat} {S : SM} {Dk Dk' : DM} (h : Live w s S nn Dk) (hu : Upd S.db Dk'.obj w w') : Live w' s S nn Dk' :=
  ⟨⟨(hu.other _ h.st.ne2).trans h.st.blk, ownsS_at h.st.own (hu.other _ h.st.ne3), h.st.ne1, h.st.ne2, h.st.ne3⟩, hu.blk⟩
theorem ownsS_lt {w : World} {b n : Nat} {D : MD} (h : ownsS w b n D) : b < w.heap.size := World.ownsMap.lt h
theorem Live.below {w w' : World} {s nn : Nat} {S : SM} {Dk : DM} (h : Live w s S nn Dk) (hb : Below w.heap.size w w') : Live w' s S nn Dk :=
  ⟨⟨(hb.block _ (heap_lt h.st.blk)).trans h.st.blk, ownsS_at h.st.own (hb.block _ (ownsS_lt h.st.own)), h.st.ne1, h.st.ne2, h.st.ne3⟩, (hb.block _ (heap_lt h.dk)).trans h.dk⟩
theorem Live.set {w w' : World} {s nn : Nat} {S : SM} {Dk : DM} (h : Live w s S nn Dk) {D : MD} {m : Nat} (hs : StoreAt w' s { S with D := D } m) (ht : w.mapTurned w' S.mb) : Live w' s { S with D := D } m Dk :=
  ⟨hs, (ht.grown.block _ (heap_lt h.dk) (by simp; exact fun e => h.st.ne3 e.symm)).trans h.dk⟩

set_option maxRecDepth 100000 in
set_option maxHeartbeats 8000000 in
theorem put_full (s : Nat) (S : SM) (nn : Nat) (Dk : DM) (k d : ByteArray) (w : World) (h : Live w s S nn Dk) (hok : Dk.Ok) (hk : k.size ≤ 65536) (hd : d.size ≤ 65536) (h0 : ¬ Dk.appendC (frameB k d) = 0) :
    Calls Try.prog 35 #[.pointer (some ⟨s, 0, none⟩), .string k, .string d] w fun e w' => e = .returned (.int .i64 (Dk.appendC (frameB k d))) ∧ Live w' s S nn (Dk.appendD (frameB k d)) ∧ But [s, S.mb, S.db] w w' := by
  have hz := frameB_size hk hd
  have hF := frame_any k d hk hd w
  have hd0 : (Dk.appendC (frameB k d) == 0) = false := by simpa using h0
  generalize frameB k d = fr at *
  have hA := fun w1 hb => append_any S.db Dk fr w1 hok (by omega) hb
  generalize Dk.appendC fr = c at *
  generalize Dk.appendD fr = Dk' at *
  obtain ⟨c0, c1, c2, c3, fz⟩ := cells4 h.st.blk
  have hc := fun w1 (hb : Below w.heap.size w w1) => cells4 (h.below hb).st.blk
  have H := Lib.hid h; clear h
  go_enter Try.func35, Try.ntmps35
  go_wp2_with (first
    | (with_reducible refine Lex.wp_region_lex (by kernel_rfl) (by decide +kernel) ?_)
    | (with_reducible refine Lex.fin_on (by kernel_rfl) ?_)
    | (go_at_call 27; refine hF.mono ?_; rintro e w1 ⟨rfl, hb1⟩; obtain ⟨d0, d1, d2, d3, fz1⟩ := hc w1 hb1)
    | (go_at_call 12; refine (hA _ (H.out.below hb1).dk).mono ?_; rintro e w2 ⟨rfl, hU2⟩))
  go_ret
  exact ⟨rfl, (H.out.below hb1).upd hU2, (But.of_below hb1).trans (But.of_upd hU2 (by simp))⟩
theorem Live.storeUpd {w w' : World} {s nn : Nat} {S : SM} {Dk : DM} (h : Live w s S nn Dk) {n size : Nat} (hu : Upd s (.cells #[.pointer (some ⟨S.db, 0, none⟩), .map (some S.mb), .int .i64 n, .int .i64 size] 91) w w') : Live w' s { S with n := n, size := size } nn Dk :=
  ⟨⟨hu.blk, ownsS_at h.st.own (hu.other _ fun e => h.st.ne1 e.symm), h.st.ne1, h.st.ne2, h.st.ne3⟩, (hu.other _ fun e => h.st.ne2 e.symm).trans h.dk⟩

set_option maxRecDepth 100000 in
set_option maxHeartbeats 8000000 in
theorem put_sync (s : Nat) (S : SM) (nn : Nat) (Dk : DM) (k d : ByteArray) (w : World) (h : Live w s S nn Dk) (hok : Dk.Ok) (hk : k.size ≤ 65536) (hd : d.size ≤ 65536) (h0 : Dk.appendC (frameB k d) = 0) (h1 : ¬ (Dk.appendD (frameB k d)).syncC = 0) :
    Calls Try.prog 35 #[.pointer (some ⟨s, 0, none⟩), .string k, .string d] w fun e w' => e = .returned (.int .i64 (Dk.appendD (frameB k d)).syncC) ∧ Live w' s S nn (Dk.appendD (frameB k d)).syncD ∧ But [s, S.mb, S.db] w w' := by
  have hz := frameB_size hk hd
  have hF := frame_any k d hk hd w
  have hok1 := hok.appendOk h0
  generalize frameB k d = fr at *
  have hA := fun w1 hb => append_any S.db Dk fr w1 hok (by omega) hb
  rw [h0] at hA
  clear h0
  generalize Dk.appendD fr = Dk' at *
  have hY := fun w1 hb => sync_any S.db Dk' w1 hok1 hb
  have hd0 : (Dk'.syncC == 0) = false := by simpa using h1
  generalize Dk'.syncC = c at *
  generalize Dk'.syncD = Dk2 at *
  obtain ⟨c0, c1, c2, c3, fz⟩ := cells4 h.st.blk
  have hc := fun w1 (hb : Below w.heap.size w w1) => cells4 (h.below hb).st.blk
  have hc2 := fun w1 w2 (hb : Below w.heap.size w w1) (hu : Upd S.db Dk'.obj w1 w2) => cells4 ((h.below hb).upd hu).st.blk
  have H := Lib.hid h; clear h
  go_enter Try.func35, Try.ntmps35
  go_wp2_with (first
    | (with_reducible refine Lex.wp_region_lex (by kernel_rfl) (by decide +kernel) ?_)
    | (with_reducible refine Lex.fin_on (by kernel_rfl) ?_)
    | (go_at_call 27; refine hF.mono ?_; rintro e w1 ⟨rfl, hb1⟩; obtain ⟨d0, d1, d2, d3, fz1⟩ := hc w1 hb1)
    | (go_at_call 12; refine (hA _ (H.out.below hb1).dk).mono ?_; rintro e w2 ⟨rfl, hU2⟩; obtain ⟨e0, e1, e2, e3, fz2⟩ := hc2 _ w2 hb1 hU2)
    | (go_at_call 22; refine (hY _ ((H.out.below hb1).upd hU2).dk).mono ?_; rintro e w3 ⟨rfl, hU3⟩))
  go_ret
  exact ⟨rfl, ((H.out.below hb1).upd hU2).upd hU3, ((But.of_below hb1).trans (But.of_upd hU2 (by simp))).trans (But.of_upd hU3 (by simp))⟩

set_option maxRecDepth 100000 in
set_option maxHeartbeats 8000000 in
theorem put_ok (s : Nat) (S : SM) (nn : Nat) (Dk : DM) (k d : ByteArray) (w : World) (h : Live w s S nn Dk) (hok : Dk.Ok) (hk : k.size ≤ 65536) (hd : d.size ≤ 65536) (h0 : Dk.appendC (frameB k d) = 0) (h1 : (Dk.appendD (frameB k d)).syncC = 0)
    (hn : nn ≤ 1048576) (hSn : S.n ≤ 1048576) (hSz : S.size ≤ 1099511627776) :
    Calls Try.prog 35 #[.pointer (some ⟨s, 0, none⟩), .string k, .string d] w fun e w' => e = .returned (.int .i64 0) ∧ Live w' s { S with D := setD S.D k d, n := S.n + 1, size := S.size + (frameB k d).size } (nn + 1) (Dk.appendD (frameB k d)).syncD ∧ But [s, S.mb, S.db] w w' := by
  have hz := frameB_size hk hd
  have hF := frame_any k d hk hd w
  have hok1 := hok.appendOk h0
  generalize frameB k d = fr at *
  have hA := fun w1 hb => append_any S.db Dk fr w1 hok (by omega) hb
  rw [h0] at hA
  clear h0
  generalize Dk.appendD fr = Dk' at *
  have hY := fun w1 hb => sync_any S.db Dk' w1 hok1 hb
  rw [h1] at hY
  clear h1
  generalize Dk'.syncD = Dk2 at *
  have hT := fun w1 hs => set_any s S nn k d w1 hs hn (by omega) (by omega)
  generalize setD S.D k d = D' at *
  obtain ⟨c0, c1, c2, c3, fz⟩ := cells4 h.st.blk
  have hc := fun w1 (hb : Below w.heap.size w w1) => cells4 (h.below hb).st.blk
  have hc2 := fun w1 w2 (hb : Below w.heap.size w w1) (hu : Upd S.db Dk'.obj w1 w2) => cells4 ((h.below hb).upd hu).st.blk
  have H := Lib.hid h; clear h
  go_enter Try.func35, Try.ntmps35
  go_wp2_with (first
    | (with_reducible refine Lex.wp_region_lex (by kernel_rfl) (by decide +kernel) ?_)
    | (with_reducible refine Lex.fin_on (by kernel_rfl) ?_)
    | (go_at_call 27; refine hF.mono ?_; rintro e w1 ⟨rfl, hb1⟩; obtain ⟨d0, d1, d2, d3, fz1⟩ := hc w1 hb1)
    | (go_at_call 12; refine (hA _ (H.out.below hb1).dk).mono ?_; rintro e w2 ⟨rfl, hU2⟩; obtain ⟨e0, e1, e2, e3, fz2⟩ := hc2 _ w2 hb1 hU2)
    | (go_at_call 22; refine (hY _ ((H.out.below hb1).upd hU2).dk).mono ?_; rintro e w3 ⟨rfl, hU3⟩; have HL := Lib.hid (((H.out.below hb1).upd hU2).upd hU3))
    | (go_at_call 62; refine (hT _ HL.out.st).mono ?_; rintro e w4 ⟨rfl, hs4, ht4⟩; obtain ⟨f0, f1, f2, f3, fz4⟩ := cells4 hs4.blk; have HS := Lib.hid hs4; clear hs4))
  go_ret
  have hL4 := HL.out.set HS.out ht4
  have hU5 := Upd.set (i := 3) (v := .int .i64 ((S.size : Int) + fr.size)) (Upd.set (i := 2) (v := .int .i64 ((S.n : Int) + 1)) (Upd.refl hL4.st.blk))
  refine ⟨rfl, hL4.storeUpd (Upd.cast hU5 (by simp)), ((((But.of_below hb1).trans (But.of_upd hU2 (by simp))).trans (But.of_upd hU3 (by simp))).trans (But.of_turned ht4 (by simp))).trans (But.of_upd hU5 (by simp))⟩

theorem put_any (s : Nat) (S : SM) (nn : Nat) (Dk : DM) (k d : ByteArray) (w : World) (h : Live w s S nn Dk) (hok : Dk.Ok) (hk : k.size ≤ 65536) (hd : d.size ≤ 65536)
    (hn : nn ≤ 1048576) (hSn : S.n ≤ 1048576) (hSz : S.size ≤ 1099511627776) :
    Calls Try.prog 35 #[.pointer (some ⟨s, 0, none⟩), .string k, .string d] w fun e w' => e = .returned (.int .i64 (putC Dk k d)) ∧ Live w' s (putS S Dk k d) (nn + 1) (putDk Dk k d) ∧ But [s, S.mb, S.db] w w' := by
  by_cases h0 : Dk.appendC (frameB k d) = 0
  · by_cases h1 : (Dk.appendD (frameB k d)).syncC = 0
    · refine (put_ok s S nn Dk k d w h hok hk hd h0 h1 hn hSn hSz).mono ?_
      rintro e w' ⟨rfl, h2, h3⟩
      have e1 : putC Dk k d = 0 := by unfold putC; rw [if_pos h0, h1]
      have e2 : putDk Dk k d = (Dk.appendD (frameB k d)).syncD := by unfold putDk; rw [if_pos h0]
      rw [e1, e2]; unfold putS; rw [if_pos e1]
      exact ⟨rfl, h2, h3⟩
    · refine (put_sync s S nn Dk k d w h hok hk hd h0 h1).mono ?_
      rintro e w' ⟨rfl, h2, h3⟩
      have e1 : putC Dk k d = (Dk.appendD (frameB k d)).syncC := by unfold putC; rw [if_pos h0]
      have e2 : putDk Dk k d = (Dk.appendD (frameB k d)).syncD := by unfold putDk; rw [if_pos h0]
      rw [e2]; unfold putS; rw [e1, if_neg h1]
      exact ⟨rfl, ⟨h2.st.mono (by omega), h2.dk⟩, h3⟩
  · refine (put_full s S nn Dk k d w h hok hk hd h0).mono ?_
    rintro e w' ⟨rfl, h2, h3⟩
    have e1 : putC Dk k d = Dk.appendC (frameB k d) := by unfold putC; rw [if_neg h0]
    have e2 : putDk Dk k d = Dk.appendD (frameB k d) := by unfold putDk; rw [if_neg h0]
    rw [e2]; unfold putS; rw [e1, if_neg h0]
    exact ⟨rfl, ⟨h2.st.mono (by omega), h2.dk⟩, h3⟩
end Go.Proofs.Ytmflngpgmmgohaa
