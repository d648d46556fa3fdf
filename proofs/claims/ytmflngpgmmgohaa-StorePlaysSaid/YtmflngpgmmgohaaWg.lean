/-
  Walks: the reference's OpenStore; the law's comparison of a store and its model.
-/
import Derived.Test.YtmflngpgmmgohaaWf
import Derived.Test.YtmflngpgmmgohaaVd
import Derived.Test.YtmflngpgmmgohaaTg
namespace Go.Proofs.Ytmflngpgmmgohaa
open Go.RowKit Go.Sort Go.Names

theorem reads_ref (s : ByteArray) (hs : s.size ≤ 1048576) (w : World) :
    Calls Try.prog 32 #[.string s] w fun e w' => ∃ (p : Option Addr) (cap : Nat), e = .returned (.tuple #[.slice p (readV s).1.length cap, .int .i64 (openN s)]) ∧ w'.ownsRow w.heap.size 44 2 (.slice p (readV s).1.length cap) (readV s).1.length (recCells (readV s).1) ∧ Below w.heap.size w w' := by
  have h := refreads_val s hs w
  have hle := readV_le (s := s)
  have hn : ((s.size : Int) - (readV s).2.size) = (openN s : Int) := by unfold openN; omega
  rwa [hn] at h

/-- What OpenStore leaves. -/
structure RO (w w' : World) (r eb : Nat) (v : Value) (L : List Rec) (R' : RM) : Prop where
  ra : RA w' r eb v L R'
  new1 : w.heap.size ≤ r
  new2 : ∀ g, v.ownBlock = some g → w.heap.size ≤ g

theorem RO.mk' {w w1 w2 : World} {eb : Nat} {v : Value} {L : List Rec} {R' : RM} (ho : w1.ownsRow w.heap.size 44 2 v L.length (recCells L)) (hb : w2.heap[eb]? = some R'.obj) (hw : w2.heap = w1.heap) (hz : w.heap.size ≤ w1.heap.size) (he : eb < w.heap.size) :
    RO w (w2.alloc (.cells #[.pointer (some ⟨eb, 0, none⟩), v] 106)) w2.heap.size eb v L R' := by
  have o2 : w2.ownsRow w.heap.size 44 2 v L.length (recCells L) := ownsRow_heap ho hw
  have hA : Below w2.heap.size w2 (w2.alloc (.cells #[.pointer (some ⟨eb, 0, none⟩), v] 106)) := (Below.refl _ _).alloc (Nat.le_refl _) _
  have hv : ∀ g, v.ownBlock = some g → w.heap.size ≤ g := fun g hg => own_ge o2 g hg
  refine ⟨⟨heap_alloc_new _ _, ownsRow_zero (ownsRow_below o2 hA (Nat.le_refl _)), (hA.block _ (heap_lt hb)).trans hb, by rw [hw]; omega, ?_, not_own hv he⟩, by rw [hw]; exact hz, hv⟩
  intro e
  have := (o2.lt _ e).2
  omega

set_option maxRecDepth 100000 in
set_option maxHeartbeats 8000000 in
theorem refostore_any (eb : Nat) (R : RM) (w : World) (hok : R.Ok) (hb : w.heap[eb]? = some R.obj) (hz : R.data.size ≤ 1048576) :
    Calls Try.prog 42 #[.pointer (some ⟨eb, 0, none⟩)] w fun e w' => But [eb] w w' ∧ w'.heap[eb]? = some (ropenR R).obj ∧
      ((¬ ropenC R = 0 ∧ e = .returned (.tuple #[.pointer none, .int .i64 (ropenC R)])) ∨
       (ropenC R = 0 ∧ ∃ r v, e = .returned (.tuple #[.pointer (some ⟨r, 0, none⟩), .int .i64 0]) ∧ RO w w' r eb v (readV R.data).1 (ropenR R))) := by
  have hR := reads_ref R.data hz w
  have hle := readV_le (s := R.data)
  have hel := heap_lt hb
  have hT := fun w1 hb => reftrunc_any eb R (openN R.data) w1 hok hb
  have h0 := cells7 hb
  obtain ⟨c0, c1, c2, c3, c4, c5, c6, fz⟩ := h0
  by_cases ht : (readV R.data).2.size = 0
  · have e1 : ropenC R = 0 := by unfold ropenC; rw [if_pos ht]
    have e2 : ropenR R = R := by unfold ropenR; rw [if_pos ht]
    rw [e1, e2]
    have hn : ¬ ((openN R.data : Int) < R.data.size) := by unfold openN; omega
    have hn2 : decide (openN R.data < R.data.size) = false := by unfold openN; simp; omega
    clear e1 e2 ht hle hT
    generalize (readV R.data).1 = L at *
    generalize openN R.data = n at *
    go_enter Try.func42, Try.ntmps42
    go_wp2_with (first
      | (go_at_call 32; refine hR.mono ?_; rintro e w1 ⟨p, cap, rfl, hown, hb1⟩; have Hown := Lib.hid hown; clear hown; have d0 := cells7 ((hb1.block _ hel).trans hb); obtain ⟨d0, d1, d2, d3, d4, d5, d6, dz⟩ := d0))
    go_ret2
    have hbk := (hb1.block _ hel).trans hb
    have hRO := RO.mk' Hown.out hbk rfl hb1.size hel
    exact ⟨(But.of_below hb1).alloc _, hRO.ra.dk, .inr ⟨trivial, _, _, rfl, hRO⟩⟩
  · have e1 : ropenC R = R.truncC (openN R.data) := by unfold ropenC; rw [if_neg ht]
    have e2 : ropenR R = R.truncR (openN R.data) := by unfold ropenR; rw [if_neg ht]
    rw [e1, e2]
    have hn : ((openN R.data : Int) < R.data.size) := by unfold openN; omega
    have hn2 : decide (openN R.data < R.data.size) = true := by unfold openN; simp; omega
    clear e1 e2 ht hle
    by_cases hc : R.truncC (openN R.data) = 0
    · rw [hc] at hT
      rw [hc]
      clear hc
      generalize (readV R.data).1 = L at *
      generalize R.truncR (openN R.data) = R' at *
      generalize openN R.data = n at *
      go_enter Try.func42, Try.ntmps42
      go_wp2_with (first
        | (go_at_call 32; refine hR.mono ?_; rintro e w1 ⟨p, cap, rfl, hown, hb1⟩; have Hown := Lib.hid hown; clear hown; have d0 := cells7 ((hb1.block _ hel).trans hb); obtain ⟨d0, d1, d2, d3, d4, d5, d6, dz⟩ := d0)
        | (go_at_call 52; refine (hT _ ((hb1.block _ hel).trans hb)).mono ?_; rintro e w3 ⟨rfl, hU3⟩))
      go_ret2
      have o3 : w3.ownsRow w.heap.size 44 2 (.slice p L.length cap) L.length (recCells L) := ownsRow_but Hown.out (But.of_upd hU3 (List.mem_singleton.2 rfl)) (by simp; omega)
      have hRO := RO.mk' (w := w) (w1 := w3) o3 hU3.blk rfl (by rw [hU3.size]; exact hb1.size) hel
      exact ⟨((But.of_below hb1).trans (But.of_upd hU3 (by simp))).alloc _, hRO.ra.dk, .inr ⟨trivial, _, _, rfl, hRO⟩⟩
    · have hd0 : (R.truncC (openN R.data) == 0) = false := by simpa using hc
      generalize (readV R.data).1 = L at *
      generalize R.truncC (openN R.data) = c at *
      generalize R.truncR (openN R.data) = R' at *
      generalize openN R.data = n at *
      go_enter Try.func42, Try.ntmps42
      go_wp2_with (first
        | (go_at_call 32; refine hR.mono ?_; rintro e w1 ⟨p, cap, rfl, hown, hb1⟩; have Hown := Lib.hid hown; clear hown; have d0 := cells7 ((hb1.block _ hel).trans hb); obtain ⟨d0, d1, d2, d3, d4, d5, d6, dz⟩ := d0)
        | (go_at_call 52; refine (hT _ ((hb1.block _ hel).trans hb)).mono ?_; rintro e w3 ⟨rfl, hU3⟩))
      go_ret2
      exact ⟨(But.of_below hb1).trans (But.of_upd hU3 (by simp)), hU3.blk, .inl ⟨hc, rfl⟩⟩

theorem keys_small2 {D : MD} {L : List Rec} {a b : Nat} (h : Cur D L) (hT : Tid D) (hs : ∀ r ∈ L, r.1.size ≤ a ∧ r.2.size ≤ b) : ∀ x ∈ KS D, x.length ≤ a := fun x hx => by
  have := (comp_small h hT hs (recOf D x) (List.mem_map.2 ⟨x, hx, rfl⟩)).1
  have h2 : x.toArray.size ≤ a := this
  simpa using h2

set_option maxRecDepth 100000 in
set_option maxHeartbeats 16000000 in
theorem same_any (s r eb mb db nn : Nat) (D : MD) (Dk : DM) (L : List Rec) (R : RM) (v : Value) (w : World)
    (hl : Live w s ⟨db, mb, L.length, (framesB L).size, D⟩ nn Dk) (hr : RA w r eb v L R) (hrel : Rel Dk R) (hc : Cur D L) (hn : nn ≤ 100000) (hL : L.length ≤ 100000) (hz : ∀ x ∈ L, x.1.size ≤ 65536 ∧ x.2.size ≤ 65536) :
    Calls Try.prog 48 #[.pointer (some ⟨s, 0, none⟩), .pointer (some ⟨r, 0, none⟩), .pointer (some ⟨db, 0, none⟩), .pointer (some ⟨eb, 0, none⟩)] w fun e w' => e = .returned (.bool true) ∧ Below w.heap.size w w' := by
  obtain ⟨p, cap, rfl⟩ := hr.zero
  have hT := ownsS_tid hl.st.own
  have hK := KL_KS hc hT
  have hdat := hc.data
  have hKz := keys_small2 hc hT hz
  have hKl : (KS D).length ≤ 100000 := by rw [hK]; exact Nat.le_trans (KL_len L) hL
  have hSn := fun wx (h : Live wx s ⟨db, mb, L.length, (framesB L).size, D⟩ nn Dk) => slen_any s _ _ wx h.st
  have hKV := fun wx (h : Live wx s ⟨db, mb, L.length, (framesB L).size, D⟩ nn Dk) => keys_val s _ nn wx h.st (by omega)
  have hRK := fun wx (h : RA wx r eb (.slice p L.length cap) L R) => refkeys_any r eb _ L R wx h hL (fun x hx => by have := (hz x hx).1; unfold maxLen; omega)
  rw [← hK] at hRK
  have hSm := fun (B1 B2 : Nat) v1 v2 wx h1 h2 => sameTexts_any B1 B2 v1 v2 (KS D) (KS D) wx h1 h2 (by omega) (by omega)
  simp only [decide_true] at hSm
  have hRe := fun wx (h : Live wx s ⟨db, mb, L.length, (framesB L).size, D⟩ nn Dk) => read_any db Dk wx h.dk
  have hSu := fun wx (h : Live wx s ⟨db, mb, L.length, (framesB L).size, D⟩ nn Dk) => synced_any db Dk wx h.dk
  have hCr := fun wx (h : Live wx s ⟨db, mb, L.length, (framesB L).size, D⟩ nn Dk) => crashed_any db Dk wx h.dk
  have hG := fun k (hk : k ∈ KS D) wx h => get_pack (mb := mb) (s := s) (db := db) (n := L.length) (size := (framesB L).size) (Dk := Dk) (nn := nn) hT hk (by have := hKz k hk; omega) wx h
  simp only [hdat] at hG
  have hRG := fun k wx (h : RA wx r eb (.slice p L.length cap) L R) => refget_any r eb _ L R k wx h (by omega)
  dsimp only at hSn hKV
  clear hdat hK hKz hT
  generalize KS D = K at *
  have hrl := heap_lt hr.blk
  have hel := heap_lt hr.dk
  obtain ⟨c0, c1, fz⟩ := hr.cells
  obtain ⟨d0, d1, d2, d3, d4, d5, d6, dz⟩ := cells7 hr.dk
  rw [hrel.data] at d0
  rw [hrel.syn] at d1
  rw [hrel.crashed] at d5
  have z1 := Lib.hid (show w.drew.cell? ⟨r, 1, none⟩ = _ from c1)
  have y0 := Lib.hid (show w.drew.cell? ⟨eb, 0, none⟩ = _ from d0)
  have y1 := Lib.hid (show w.drew.cell? ⟨eb, 1, none⟩ = _ from d1)
  have y5 := Lib.hid (show w.drew.cell? ⟨eb, 5, none⟩ = _ from d5)
  have Hl := Lib.hid hl; clear hl
  have Hr := Lib.hid hr; clear hr
  have Hc := Lib.hid hc; clear hc
  clear hz
  clear c0 d2 d3 d4 d6
  have Hdk := Lib.hid (show ∀ wx, RA wx r eb (.slice p L.length cap) L R → wx.cell? ⟨eb, 0, none⟩ = some (.string Dk.data) ∧ wx.cell? ⟨eb, 1, none⟩ = some (.int .i64 Dk.syn) ∧ wx.cell? ⟨eb, 5, none⟩ = some (.bool Dk.crashed) from fun wx h => by
    obtain ⟨d0, d1, -, -, -, d5, -, -⟩ := cells7 h.dk
    exact ⟨by rw [← hrel.data]; exact d0, by rw [← hrel.syn]; exact d1, by rw [← hrel.crashed]; exact d5⟩)
  clear hrel
  generalize hcur : cur L = cv at *
  clear hcur
  go_enter Try.func48, Try.ntmps48
  go_wp2_with (first
    | ((with_reducible refine Lex.at_finK ?_); refine LexK.finE_on (by kernel_rfl) (by repeat first | exact LexK.finL_nil | refine LexK.finL_none rfl ?_ | refine LexK.finL_skip (by decide +kernel) ?_ | refine LexK.finL_take rfl (.inl rfl) z1.out ?_ | refine LexK.finL_take rfl (.inr rfl) y0.out ?_ | refine LexK.finL_take rfl (.inr rfl) y1.out ?_ | refine LexK.finL_take rfl (.inr rfl) y5.out ?_ | refine LexK.finL_unwanted (by kernel_rfl) ?_) ?_)
    | ((with_reducible refine Lex.at_region ?_); with_reducible refine Lex.wp_region_lex (by kernel_rfl) (by decide +kernel) ?_)
    | ((with_reducible refine Lex.at_fin ?_); with_reducible refine Lex.fin_on (by kernel_rfl) ?_)
    | ((with_reducible refine Lex.at_region ?_); refine LexK.wp_region_lexE (fun x => x = r ∨ x = eb) (by kernel_rfl) (by decide +kernel) ?_)
    | ((with_reducible refine Lex.at_wpX ?_); with_reducible refine LexK.wpX_plain (by decide +kernel) ?_)
    | ((with_reducible refine Lex.at_wpX ?_); with_reducible refine LexK.wpX_call ?_)
    | ((with_reducible refine Lex.at_wpX ?_); with_reducible refine LexK.wpX_nil ?_)
    | ((with_reducible refine Lex.at_ext ?_); with_reducible refine LexK.ext_on (LexK.Ext.of_below hb3 (Nat.le_refl _)) ?_)
    | ((with_reducible refine Lex.at_ext ?_); with_reducible refine LexK.ext_on (LexK.Ext.of_below hb2 (Nat.le_refl _)) ?_)
    | ((with_reducible refine Lex.at_ext ?_); with_reducible refine LexK.ext_on (LexK.Ext.of_below hb1 (Nat.le_refl _)) ?_)
    | ((with_reducible refine Lex.at_ext ?_); refine LexK.ext_on ⟨Nat.le_refl _, fun _ _ _ => rfl⟩ ?_)
    | (go_at_call 36; refine (hSn _ Hl.out.drew).mono ?_; rintro e u1 ⟨rfl, hu1⟩; subst hu1)
    | (go_at_call 37; refine (hKV _ Hl.out.drew).mono ?_; rintro e w1 ⟨p1, q1, rfl, hrow1, hb1⟩; have Hrow1 := Lib.hid hrow1; clear hrow1; have Hl1 := Lib.hid (Hl.out.drew.below hb1); have Hr1 := Lib.hid (Hr.out.drew.below hb1))
    | (go_at_call 69; refine (hRK _ Hr1.out).mono ?_; rintro e w2 ⟨v2, rfl, hos2, hb2⟩; obtain ⟨p2, q2, rfl, -⟩ := hos2.cut; have Hos2 := Lib.hid hos2; clear hos2; have Hl2 := Lib.hid (Hl1.out.below hb2); have Hr2 := Lib.hid (Hr1.out.below hb2))
    | (go_at_call 40; refine (hSm _ _ _ _ _ (ownsRow9_below Hrow1.out hb2 (Nat.le_refl _)) Hos2.out.row).mono ?_; rintro e w3 ⟨rfl, hb3⟩; have Hl3 := Lib.hid (Hl2.out.below hb3); have Hr3 := Lib.hid (Hr2.out.below hb3); obtain ⟨x0, x1, x5⟩ := Hdk.out _ Hr3.out; have He3 := Lib.hid (show Below w.heap.size w w3 from ((((Below.refl w.heap.size w).drew.trans hb1).step hb2).step hb3)))
    | (go_at_call 13; refine (hRe _ Hl3.out).mono ?_; rintro e u1 ⟨rfl, hu1⟩; subst hu1)
    | (go_at_call 15; refine (hSu _ Hl3.out).mono ?_; rintro e u1 ⟨rfl, hu1⟩; subst hu1)
    | (go_at_call 24; refine (hCr _ Hl3.out).mono ?_; rintro e u1 ⟨rfl, hu1⟩; subst hu1)
    | (go_at_call 69; refine (hRK _ Hr3.out).mono ?_; rintro e w4 ⟨v4, rfl, hos4, hb4⟩; obtain ⟨p4, q4, rfl, -⟩ := hos4.cut; have Hos4 := Lib.hid hos4; clear hos4; have Hl4 := Lib.hid (Hl3.out.below hb4); have Hr4 := Lib.hid (Hr3.out.below hb4); have He4 := Lib.hid (He3.out.step hb4)))
  have He4s := He4.out.size
  go_loopw [61] (fun i wr => ∃ k : Nat, i = .int .i64 k ∧ k ≤ K.length ∧ Below w4.heap.size w4 wr) (fun i _ => K.length - (intOf i).toNat)
  case atStart => exact ⟨0, rfl, by omega, Below.refl _ _⟩
  case round =>
    obtain ⟨k, rfl, hk, hbl⟩ := hrel
    obtain ⟨w5, hw5⟩ : ∃ x, x = wr := ⟨_, rfl⟩
    subst hw5
    by_cases hlt : k < K.length
    · have o5 := ownsRow9_below Hos4.out.row hbl (Nat.le_refl _)
      obtain ⟨g, rfl⟩ := ownT_ptr o5 (by omega)
      have t0 := ownT_cell o5 hlt
      have hg := hG K[k] (List.getElem_mem hlt) w5 (Hl4.out.below hbl)
      have hgr := hRG ⟨(K[k]).toArray⟩ w5 (Hr4.out.below hbl)
      generalize cv ⟨(K[k]).toArray⟩ = dv at *
      generalize (ByteArray.mk (K[k]).toArray) = kk at *
      clear o5
      generalize decide (¬ dv = ⟨#[]⟩) = bb at *
      go_wp2_with (first
        | (go_at_call 38; refine hg.mono ?_; rintro e u6 ⟨rfl, hu6⟩; subst hu6)
        | (go_at_call 43; refine hgr.mono ?_; rintro e w6 ⟨rfl, hb6⟩))
      exact ⟨⟨k + 1, by go_num, by omega, hbl.step hb6⟩, by simp [intOf]; omega⟩
    · obtain rfl : k = K.length := by omega
      go_wp2
      go_ret
      exact ⟨rfl, He4.out.step hbl⟩
end Go.Proofs.Ytmflngpgmmgohaa
