/-
  StorePlays: what each pair of calls does to a store and its model.
-/
import Derived.Test.YtmflngpgmmgohaaWg
import Derived.Test.YtmflngpgmmgohaaDlaw
namespace Go.Proofs.Ytmflngpgmmgohaa
open Go.RowKit Go.Sort Go.Names

theorem append_cap (D : DM) (s : ByteArray) : (D.appendD s).cap = D.cap := by
  unfold DM.appendD DM.crash DM.struck; split
  · rfl
  · split
    · rfl
    · split <;> split <;> rfl
theorem sync_cap (D : DM) : D.syncD.cap = D.cap := by
  unfold DM.syncD DM.crash DM.struck; split
  · rfl
  · split <;> split <;> rfl
theorem trunc_cap (D : DM) (n : Int) : (D.truncD n).cap = D.cap := by
  unfold DM.truncD DM.crash DM.struck; split
  · rfl
  · split
    · rfl
    · split <;> split <;> rfl
theorem arm_cap (D : DM) (n k : Int) : (D.armD n k).cap = D.cap := by unfold DM.armD; split <;> rfl
theorem restart_cap (D : DM) : D.restartD.cap = D.cap := by unfold DM.restartD; split <;> rfl
theorem put_cap (D : DM) (k d : ByteArray) : (putDk D k d).cap = D.cap := by
  unfold putDk; split
  · rw [sync_cap, append_cap]
  · exact append_cap _ _
theorem comp_cap (D : DM) (T : ByteArray) : (compDk D T).cap = D.cap := by
  unfold compDk; split
  · split
    · rw [sync_cap, append_cap, trunc_cap]
    · rw [append_cap, trunc_cap]
  · exact trunc_cap _ _
theorem sopen_cap (D : DM) : (sopenDk D).cap = D.cap := by
  unfold sopenDk; split
  · rfl
  · exact trunc_cap _ _

theorem framesB_bound {L : List Rec} (h : ∀ x ∈ L, x.1.size ≤ 65536 ∧ x.2.size ≤ 65536) : (framesB L).size ≤ 131100 * L.length := by
  induction L with
  | nil => exact Nat.zero_le _
  | cons r L ih =>
    have h1 := frameB_size (h r (by simp)).1 (h r (by simp)).2
    have h2 := ih fun x hx => h x (by simp [hx])
    rw [framesB, ByteArray.size_append, List.length_cons]
    omega

/-- The state of the play. -/
structure PX (B s r db eb mb nn k : Nat) (D : MD) (Dk : DM) (L : List Rec) (R : RM) (v : Value) (w : World) : Prop where
  live : Live w s ⟨db, mb, L.length, (framesB L).size, D⟩ nn Dk
  ra : RA w r eb v L R
  rel : Rel Dk R
  cur : Cur D L
  small : ∀ x ∈ L, x.1.size ≤ 500 ∧ x.2.size ≤ 500
  len : L.length ≤ 500 + k
  nn : nn ≤ 500 + k
  cap : Dk.cap ≤ 500
  sep : (s ≠ r ∧ s ≠ eb ∧ mb ≠ r) ∧ mb ≠ eb ∧ db ≠ r ∧ db ≠ eb
  own : v.ownBlock ≠ some s ∧ v.ownBlock ≠ some mb ∧ v.ownBlock ≠ some db
  new : (B ≤ s ∧ B ≤ r ∧ B ≤ db) ∧ B ≤ eb ∧ B ≤ mb
def PE (B s r db eb k : Nat) (w : World) : Prop := ∃ mb nn D Dk L R v, PX B s r db eb mb nn k D Dk L R v w
theorem PX.below {B s r db eb mb nn k : Nat} {D : MD} {Dk : DM} {L : List Rec} {R : RM} {v : Value} {w w' : World} (h : PX B s r db eb mb nn k D Dk L R v w) (hb : Below w.heap.size w w') : PX B s r db eb mb nn k D Dk L R v w' :=
  { h with live := h.live.below hb, ra := h.ra.below hb }
theorem PE.below {B s r db eb k : Nat} {w w' : World} (h : PE B s r db eb k w) (hb : Below w.heap.size w w') : PE B s r db eb k w' := by
  obtain ⟨mb, nn, D, Dk, L, R, v, h⟩ := h
  exact ⟨mb, nn, D, Dk, L, R, v, h.below hb⟩
theorem PX.mono {B s r db eb mb nn k k' : Nat} {D : MD} {Dk : DM} {L : List Rec} {R : RM} {v : Value} {w : World} (h : PX B s r db eb mb nn k D Dk L R v w) (hk : k ≤ k') : PX B s r db eb mb nn k' D Dk L R v w :=
  { h with len := by have := h.len; omega, nn := by have := h.nn; omega }
theorem PE.mono {B s r db eb k k' : Nat} {w : World} (h : PE B s r db eb k w) (hk : k ≤ k') : PE B s r db eb k' w := by
  obtain ⟨mb, nn, D, Dk, L, R, v, h⟩ := h
  exact ⟨mb, nn, D, Dk, L, R, v, h.mono hk⟩
theorem PX.B_le {B s r db eb mb nn k : Nat} {D : MD} {Dk : DM} {L : List Rec} {R : RM} {v : Value} {w : World} (h : PX B s r db eb mb nn k D Dk L R v w) : B ≤ w.heap.size := by
  have := heap_lt h.live.st.blk; have := h.new.1.1; omega
/-- A row outlives what is not its own block. -/
theorem ownsRow_off {w w' : World} {S : List Nat} {v : Value} {L : List Rec} (h : w.ownsRow 0 44 2 v L.length (recCells L)) (hb : But S w w') (hS : ∀ x ∈ S, v.ownBlock ≠ some x) : w'.ownsRow 0 44 2 v L.length (recCells L) := by
  refine ⟨h.1, ?_⟩
  rcases h.2 with h2 | ⟨g, cap, cur, rfl, h4, h5, h6⟩
  · exact .inl h2
  · refine .inr ⟨g, cap, cur, rfl, h4, ?_, h6⟩
    rw [hb.block g (heap_lt h5) (fun hx => hS _ hx rfl)]; exact h5
theorem RA.but {w w' : World} {S : List Nat} {r eb : Nat} {v : Value} {L : List Rec} {R : RM} (h : RA w r eb v L R) (hb : But S w w') (h1 : r ∉ S) (h2 : eb ∉ S) (h3 : ∀ x ∈ S, v.ownBlock ≠ some x) : RA w' r eb v L R :=
  ⟨(hb.block _ (heap_lt h.blk) h1).trans h.blk, ownsRow_off h.own hb h3, (hb.block _ (heap_lt h.dk) h2).trans h.dk, h.n1, h.n2, h.n3⟩
theorem Live.but {w w' : World} {T : List Nat} {s nn : Nat} {S : SM} {Dk : DM} (h : Live w s S nn Dk) (hb : But T w w') (h1 : s ∉ T) (h2 : S.mb ∉ T) (h3 : S.db ∉ T) : Live w' s S nn Dk :=
  h.blocks (hb.block _ (heap_lt h.st.blk) h1) (hb.block _ (ownsS_lt h.st.own) h2) (hb.block _ (heap_lt h.dk) h3)

/-- The half of a round: the store has stepped, its model has not. -/
structure PH (B s r db eb mb nn k : Nat) (D : MD) (Dk : DM) (L' L : List Rec) (R : RM) (v : Value) (w : World) : Prop where
  live : Live w s ⟨db, mb, L'.length, (framesB L').size, D⟩ nn Dk
  ra : RA w r eb v L R
theorem PH.below {B s r db eb mb nn k : Nat} {D : MD} {Dk : DM} {L' L : List Rec} {R : RM} {v : Value} {w w' : World} (h : PH B s r db eb mb nn k D Dk L' L R v w) (hb : Below w.heap.size w w') : PH B s r db eb mb nn k D Dk L' L R v w' :=
  ⟨h.live.below hb, h.ra.below hb⟩
theorem PX.half {B s r db eb mb nn k : Nat} {D : MD} {Dk : DM} {L : List Rec} {R : RM} {v : Value} {w : World} (h : PX B s r db eb mb nn k D Dk L R v w)
    {nn' : Nat} {D' : MD} {Dk' : DM} {L' : List Rec} {w' : World} (hl : Live w' s ⟨db, mb, L'.length, (framesB L').size, D'⟩ nn' Dk') (hb : But [s, mb, db] w w') : PH B s r db eb mb nn' k D' Dk' L' L R v w' := by
  obtain ⟨⟨a1, a2, a3⟩, a4, a5, a6⟩ := h.sep
  obtain ⟨b1, b2, b3⟩ := h.own
  refine ⟨hl, h.ra.but hb ?_ ?_ ?_⟩
  · simp [a1.symm, a3.symm, a5.symm]
  · simp [a2.symm, a4.symm, a6.symm]
  · simp [b1, b2, b3]
theorem PH.full {B s r db eb mb nn k : Nat} {D : MD} {Dk : DM} {L' L : List Rec} {R R' : RM} {v : Value} {w w' w0 : World} {D0 : MD} {Dk0 : DM} {nn0 : Nat} (hh : PH B s r db eb mb nn k D Dk L' L R v w) (h : PX B s r db eb mb nn0 k D0 Dk0 L R v w0)
    (hp : RP w w' r eb v L' R') (hrel : Rel Dk R') (hc : Cur D L') (hs : ∀ x ∈ L', x.1.size ≤ 500 ∧ x.2.size ≤ 500) (hl : L'.length ≤ 500 + (k + 1)) (hn : nn ≤ 500 + (k + 1)) (hcap : Dk.cap ≤ 500) : PE B s r db eb (k + 1) w' := by
  obtain ⟨⟨a1, a2, a3⟩, a4, a5, a6⟩ := h.sep
  obtain ⟨b1, b2, b3⟩ := h.own
  obtain ⟨⟨v', hra, hv⟩, hb⟩ := hp
  have l1 := heap_lt hh.live.st.blk
  have l2 := ownsS_lt hh.live.st.own
  have l3 := heap_lt hh.live.dk
  dsimp only at l2 l3
  refine ⟨mb, nn, D, Dk, L', R', v', hh.live.but hb (by simp [a1, a2]) (by simp [a3, a4]) (by simp [a5, a6]), hra, hrel, hc, hs, hl, hn, hcap, ⟨⟨a1, a2, a3⟩, a4, a5, a6⟩, ?_, h.new⟩
  rcases hv with rfl | hv
  · exact ⟨b1, b2, b3⟩
  · exact ⟨not_own hv l1, not_own hv l2, not_own hv l3⟩

theorem put_pack {B s r db eb mb nn k : Nat} {D : MD} {Dk : DM} {L : List Rec} {R : RM} {v : Value} {w0 : World} (h : PX B s r db eb mb nn k D Dk L R v w0) (hk : k ≤ 25) {K X : ByteArray} (h1 : K.size ≤ 20) (h2 : X.size ≤ 30) :
    ∃ (c : Int) (H : World → Prop),
      (∀ w, PX B s r db eb mb nn k D Dk L R v w → Calls Try.prog 35 #[.pointer (some ⟨s, 0, none⟩), .string K, .string X] w fun e w' => e = .returned (.int .i64 c) ∧ H w' ∧ But [s, mb, db] w w') ∧
      (∀ w, H w → Calls Try.prog 47 #[.pointer (some ⟨r, 0, none⟩), .string K, .string X] w fun e w' => e = .returned (.int .i64 c) ∧ PE B s r db eb (k + 1) w' ∧ But [r, eb] w w') ∧
      (∀ w w', H w → Below w.heap.size w w' → H w') := by
  have hlen := h.len
  have hnn := h.nn
  obtain ⟨hrc, hrel2⟩ := rel_put h.rel K X
  have hsz := framesB_bound (fun x hx => by have := h.small x hx; omega : ∀ x ∈ L, x.1.size ≤ 65536 ∧ x.2.size ≤ 65536)
  obtain ⟨L', hL'⟩ : ∃ x, x = (if putC Dk K X = 0 then L ++ [(K, X)] else L) := ⟨_, rfl⟩
  obtain ⟨D', hD'⟩ : ∃ x, x = (if putC Dk K X = 0 then setD D K X else D) := ⟨_, rfl⟩
  have hS : putS ⟨db, mb, L.length, (framesB L).size, D⟩ Dk K X = ⟨db, mb, L'.length, (framesB L').size, D'⟩ := by
    unfold putS
    by_cases hc : putC Dk K X = 0
    · rw [if_pos hc, hL', hD', if_pos hc, if_pos hc, framesB_snoc, ByteArray.size_append, List.length_append]; rfl
    · rw [if_neg hc, hL', hD', if_neg hc, if_neg hc]
  have hc' : Cur D' L' := by
    rw [hL', hD']; split
    · exact h.cur.set K X
    · exact h.cur
  have hs' : ∀ x ∈ L', x.1.size ≤ 500 ∧ x.2.size ≤ 500 := by
    rw [hL']; split
    · intro x hx
      rcases List.mem_append.1 hx with hx | hx
      · exact h.small x hx
      · obtain rfl := List.mem_singleton.1 hx; exact ⟨by dsimp only; omega, by dsimp only; omega⟩
    · exact h.small
  have hl' : L'.length ≤ 500 + (k + 1) := by
    rw [hL']; split
    · rw [List.length_append, List.length_singleton]; omega
    · omega
  refine ⟨putC Dk K X, PH B s r db eb mb (nn + 1) k D' (putDk Dk K X) L' L R v, ?_, ?_, fun w w' => PH.below⟩
  · intro w hw
    refine (put_any s _ nn Dk K X w hw.live hw.rel.okD (by omega) (by omega) (by omega) (by dsimp only; omega) (by dsimp only; omega)).mono ?_
    rintro e w' ⟨rfl, hlv, hb⟩
    rw [hS] at hlv
    exact ⟨rfl, hw.half hlv hb, hb⟩
  · intro w hw
    refine (refput_any r eb v L R K X w hw.ra h.rel.okR (fun _ => (rel_append h.rel _).2.okR) (by omega) (by omega) (by omega)).mono ?_
    rintro e w' ⟨rfl, hp⟩
    rw [hrc] at hp ⊢
    rw [← hL'] at hp
    have hbut := hp.but
    exact ⟨rfl, hw.full h hp hrel2 hc' hs' hl' (by omega) (by rw [put_cap]; exact h.cap), hbut⟩

theorem get_pack2 {B s r db eb mb nn k : Nat} {D : MD} {Dk : DM} {L : List Rec} {R : RM} {v : Value} {w0 : World} (h : PX B s r db eb mb nn k D Dk L R v w0) (hk : k ≤ 25) {K : ByteArray} (h1 : K.size ≤ 20) :
    ∃ (x : ByteArray) (b : Bool),
      (∀ w, PX B s r db eb mb nn k D Dk L R v w → Calls Try.prog 38 #[.pointer (some ⟨s, 0, none⟩), .string K] w fun e w' => e = .returned (.tuple #[.string x, .bool b]) ∧ w = w') ∧
      (∀ w, PX B s r db eb mb nn k D Dk L R v w → Calls Try.prog 43 #[.pointer (some ⟨r, 0, none⟩), .string K] w fun e w' => e = .returned (.tuple #[.string x, .bool b]) ∧ Below w.heap.size w w') := by
  have hlen := h.len
  refine ⟨cur L K, decide (¬ cur L K = ⟨#[]⟩), ?_, ?_⟩
  · intro w hw
    refine (get_any s _ nn K w hw.live.st (by omega)).mono ?_
    rintro e w' ⟨⟨x, rfl, hx⟩, rfl⟩
    dsimp only at hx ⊢
    rw [h.cur.has, dataOf_eq hx, h.cur.data]
    exact ⟨rfl, rfl⟩
  · intro w hw
    exact refget_any r eb v L R K w hw.ra (by omega)

theorem compact_pack2 {B s r db eb mb nn k : Nat} {D : MD} {Dk : DM} {L : List Rec} {R : RM} {v : Value} {w0 : World} (h : PX B s r db eb mb nn k D Dk L R v w0) (hk : k ≤ 25) :
    ∃ (c : Int) (H : World → Prop),
      (∀ w, PX B s r db eb mb nn k D Dk L R v w → Calls Try.prog 39 #[.pointer (some ⟨s, 0, none⟩)] w fun e w' => e = .returned (.int .i64 c) ∧ H w' ∧ Below B w w') ∧
      (∀ w, H w → Calls Try.prog 44 #[.pointer (some ⟨r, 0, none⟩)] w fun e w' => e = .returned (.int .i64 c) ∧ PE B s r db eb (k + 1) w' ∧ (B ≤ w.heap.size → Below B w w')) := by
  have hlen := h.len
  have hnn := h.nn
  have hT := ownsS_tid h.live.st.own
  have hcc := comp_compL h.cur hT
  have hz6 : ∀ x ∈ L, x.1.size ≤ 65536 ∧ x.2.size ≤ 65536 := fun x hx => by have := h.small x hx; omega
  have hsz := framesB_bound hz6
  have hcs : ∀ x ∈ comp D, x.1.size ≤ 500 ∧ x.2.size ≤ 500 := comp_small h.cur hT h.small
  have hc6 : ∀ x ∈ comp D, x.1.size ≤ 65536 ∧ x.2.size ≤ 65536 := fun x hx => by have := hcs x hx; omega
  have hcl : (comp D).length ≤ L.length := by rw [hcc]; unfold compL; rw [List.length_map]; exact KL_len L
  have hcz := framesB_bound hc6
  have hms : Maps.size D = (comp D).length := by rw [comp_length, hT.length]
  obtain ⟨⟨n1, n2, n3⟩, n4, n5⟩ := h.new
  have hbs : ∀ {w w' : World}, B ≤ w.heap.size → But [s, db] w w' → Below B w w' := fun hB hb => hb.below hB (by simp; omega)
  have hbr : ∀ {w w' : World}, But [r, eb] w w' → (B ≤ w.heap.size → Below B w w') := fun hb hB => hb.below hB (by simp; omega)
  have hbm : ∀ {w w' : World}, But [s, db] w w' → But [s, mb, db] w w' := fun hb => hb.mono (by simp)
  have hC := fun w (hw : PX B s r db eb mb nn k D Dk L R v w) => compact_any s ⟨db, mb, L.length, (framesB L).size, D⟩ nn Dk w hw.live (by omega) h.rel.okD (fun x hx => hc6 x hx) (by dsimp only; omega) (by dsimp only; omega)
  have hkt : ∀ j, (framesB (((KL L).take j).map (recF L))).size ≤ 1099511627776 := fun j => by
    have e1 : compL L = ((KL L).take j).map (recF L) ++ ((KL L).drop j).map (recF L) := by rw [← List.map_append, List.take_append_drop]; rfl
    have := framesB_le (l := ((KL L).take j).map (recF L)) (m := ((KL L).drop j).map (recF L))
    rw [← e1, ← hcc] at this; omega
  have hkl : ∀ j, (framesB (L.take j)).size ≤ 1099511627776 := fun j => by
    have := framesB_le (l := L.take j) (m := L.drop j)
    rw [List.take_append_drop] at this; omega
  have hR := fun w (hw : RA w r eb v L R) => refcompact_any r eb v L R w hw h.rel.okR (fun _ => (rel_trunc h.rel 0).2.okR) (fun _ _ => (rel_append (rel_trunc h.rel 0).2 _).2.okR) (by omega) hz6 hkl hkt
  rw [← hcc] at hR
  dsimp only at hC
  obtain ⟨hrc, hrel2⟩ := rel_comp h.rel (framesB (comp D))
  by_cases hle : (framesB L).size ≤ (framesB (comp D)).size
  · refine ⟨0, PX B s r db eb mb nn k D Dk L R v, ?_, ?_⟩
    · intro w hw
      refine (hC w hw).mono ?_
      rintro e w' (⟨-, rfl, hl, hb⟩ | ⟨hlt, -⟩)
      · have hh := hw.half hl (hbm hb)
        exact ⟨rfl, { hw with live := hl, ra := hh.ra }, hbs hw.B_le hb⟩
      · omega
    · intro w hw
      refine (hR w hw.ra).mono ?_
      rintro e w' (⟨-, rfl, hp⟩ | ⟨hlt, -⟩)
      · exact ⟨rfl, PH.full ⟨hw.live, hw.ra⟩ h hp h.rel h.cur h.small (by omega) (by omega) h.cap, hbr hp.but⟩
      · omega
  · obtain ⟨L', hL'⟩ : ∃ x, x = (if compC Dk (framesB (comp D)) = 0 then comp D else L) := ⟨_, rfl⟩
    have hS : (if compC Dk (framesB (comp D)) = 0 then (⟨db, mb, Maps.size D, (framesB (comp D)).size, D⟩ : SM) else ⟨db, mb, L.length, (framesB L).size, D⟩) = ⟨db, mb, L'.length, (framesB L').size, D⟩ := by
      rw [hL']; split
      · rw [hms]
      · rfl
    have hc' : Cur D L' := by
      rw [hL']; split
      · exact h.cur.comp hT
      · exact h.cur
    have hs' : ∀ x ∈ L', x.1.size ≤ 500 ∧ x.2.size ≤ 500 := by
      rw [hL']; split
      · exact hcs
      · exact h.small
    have hl' : L'.length ≤ 500 + (k + 1) := by rw [hL']; split <;> omega
    refine ⟨compC Dk (framesB (comp D)), PH B s r db eb mb nn k D (compDk Dk (framesB (comp D))) L' L R v, ?_, ?_⟩
    · intro w hw
      refine (hC w hw).mono ?_
      rintro e w' (⟨hge, -⟩ | ⟨-, rfl, hl, hb⟩)
      · exact absurd hge hle
      · rw [hS] at hl
        exact ⟨rfl, hw.half hl (hbm hb), hbs hw.B_le hb⟩
    · intro w hw
      refine (hR w hw.ra).mono ?_
      rintro e w' (⟨hge, -⟩ | ⟨-, rfl, hp⟩)
      · exact absurd hge hle
      · rw [hrc] at hp ⊢
        rw [← hL'] at hp
        exact ⟨rfl, hw.full h hp hrel2 hc' hs' hl' (by omega) (by rw [comp_cap]; exact h.cap), hbr hp.but⟩

/-- The disk and its model step; the stores stay. -/
theorem PX.disks {B s r db eb mb nn k : Nat} {D : MD} {Dk Dk' : DM} {L : List Rec} {R R' : RM} {v : Value} {w w1 w2 : World} (h : PX B s r db eb mb nn k D Dk L R v w) (h1 : But [db] w w1) (h1b : w1.heap[db]? = some Dk'.obj) (h2 : But [eb] w1 w2) (h2b : w2.heap[eb]? = some R'.obj) (hrel : Rel Dk' R') (hcap : Dk'.cap ≤ 500) : PX B s r db eb mb nn k D Dk' L R' v w2 := by
  obtain ⟨⟨a1, a2, a3⟩, a4, a5, a6⟩ := h.sep
  obtain ⟨b1, b2, b3⟩ := h.own
  have c1 := h.live.st.ne1
  have c2 := h.live.st.ne2
  have c3 := h.live.st.ne3
  dsimp only at c1 c2 c3
  have hb2 : But [db, eb] w w2 := (h1.mono (by simp)).trans (h2.mono (by simp))
  have l0 := Nat.lt_of_lt_of_le (heap_lt h.live.dk) h1.size
  refine { h with live := ⟨⟨?_, ?_, c1, c2, c3⟩, ?_⟩, ra := ⟨?_, ?_, h2b, h.ra.n1, h.ra.n2, h.ra.n3⟩, rel := hrel, cap := hcap }
  · exact (hb2.block _ (heap_lt h.live.st.blk) (by simp [c2, a2])).trans h.live.st.blk
  · exact ownsS_at h.live.st.own (hb2.block _ (ownsS_lt h.live.st.own) (by simp [c3, a4]))
  · exact (h2.block _ l0 (by simp [a6])).trans h1b
  · exact (hb2.block _ (heap_lt h.ra.blk) (by simp [a5.symm, h.ra.n1])).trans h.ra.blk
  · exact ownsRow_off h.ra.own hb2 (by simp [b3, h.ra.n3])

theorem arm_pack {B s r db eb mb nn k : Nat} {D : MD} {Dk : DM} {L : List Rec} {R : RM} {v : Value} {w0 : World} (h : PX B s r db eb mb nn k D Dk L R v w0) (n q : Int) (hn : n ≤ 9223372036854775807) (hq : q ≤ 9223372036854775807) :
    ∃ (H : World → Prop),
      (∀ w, PX B s r db eb mb nn k D Dk L R v w → Calls Try.prog 20 #[.pointer (some ⟨db, 0, none⟩), .int .i64 n, .int .i64 q] w fun e w' => e = .returned (.tuple #[]) ∧ H w' ∧ Below B w w') ∧
      (∀ w, H w → Calls Try.prog 45 #[.pointer (some ⟨eb, 0, none⟩), .int .i64 n, .int .i64 q] w fun e w' => e = .returned (.tuple #[]) ∧ PE B s r db eb (k + 1) w' ∧ Below B w w') := by
  obtain ⟨⟨n1, n2, n3⟩, n4, n5⟩ := h.new
  have hne := h.sep.2.2.2
  refine ⟨fun w' => ∃ w, PX B s r db eb mb nn k D Dk L R v w ∧ Upd db (Dk.armD n q).obj w w', ?_, ?_⟩
  · intro w hw
    refine (arm_any db Dk n q w hw.live.dk).mono ?_
    rintro e w' ⟨rfl, hu⟩
    exact ⟨rfl, ⟨w, hw, hu⟩, hu.below n3⟩
  · rintro w' ⟨w, hw, hu⟩
    refine (refarm_any eb R n q w' ((hu.other _ hne.symm).trans hw.ra.dk)).mono ?_
    rintro e w2 ⟨rfl, hu2⟩
    exact ⟨rfl, ⟨mb, nn, D, _, L, _, v, (hw.disks (But.of_upd hu (by simp)) hu.blk (But.of_upd hu2 (by simp)) hu2.blk (rel_arm hw.rel n q hn hq) (by rw [arm_cap]; exact hw.cap)).mono (by omega)⟩, hu2.below n4⟩

theorem restart_pack {B s r db eb mb nn k : Nat} {D : MD} {Dk : DM} {L : List Rec} {R : RM} {v : Value} {w0 : World} (h : PX B s r db eb mb nn k D Dk L R v w0) :
    ∃ (H : World → Prop) (Dk' : DM) (R' : RM),
      (∀ w, PX B s r db eb mb nn k D Dk L R v w → Calls Try.prog 21 #[.pointer (some ⟨db, 0, none⟩)] w fun e w' => e = .returned (.tuple #[]) ∧ H w' ∧ Below B w w') ∧
      (∀ w, H w → Calls Try.prog 46 #[.pointer (some ⟨eb, 0, none⟩)] w fun e w' => e = .returned (.tuple #[]) ∧ PX B s r db eb mb nn k D Dk' L R' v w' ∧ Below B w w') ∧ Rel Dk' R' ∧ Dk'.cap ≤ 500 := by
  obtain ⟨⟨n1, n2, n3⟩, n4, n5⟩ := h.new
  have hne := h.sep.2.2.2
  refine ⟨fun w' => ∃ w, PX B s r db eb mb nn k D Dk L R v w ∧ Upd db Dk.restartD.obj w w', Dk.restartD, R.restartR, ?_, ?_, rel_restart h.rel, by rw [restart_cap]; exact h.cap⟩
  · intro w hw
    refine (restart_any db Dk w hw.live.dk).mono ?_
    rintro e w' ⟨rfl, hu⟩
    exact ⟨rfl, ⟨w, hw, hu⟩, hu.below n3⟩
  · rintro w' ⟨w, hw, hu⟩
    refine (refrestart_any eb R w' ((hu.other _ hne.symm).trans hw.ra.dk)).mono ?_
    rintro e w2 ⟨rfl, hu2⟩
    exact ⟨rfl, hw.disks (But.of_upd hu (by simp)) hu.blk (But.of_upd hu2 (by simp)) hu2.blk (rel_restart hw.rel) (by rw [restart_cap]; exact hw.cap), hu2.below n4⟩

theorem but_cell {S : List Nat} {w w' : World} {b i : Nat} (h : But S w w') (hb : b < w.heap.size) (hS : b ∉ S) : w'.cell? ⟨b, i, none⟩ = w.cell? ⟨b, i, none⟩ := by
  simp [World.cell?, h.block b hb hS]
/-- The two disks. -/
structure PD (B db eb : Nat) (Dk : DM) (R : RM) (w : World) : Prop where
  hb : w.heap[db]? = some Dk.obj
  he : w.heap[eb]? = some R.obj
  rel : Rel Dk R
  cap : Dk.cap ≤ 500
  ne : db ≠ eb
  new : B ≤ db ∧ B ≤ eb
theorem PX.pd {B s r db eb mb nn k : Nat} {D : MD} {Dk : DM} {L : List Rec} {R : RM} {v : Value} {w : World} (h : PX B s r db eb mb nn k D Dk L R v w) : PD B db eb Dk R w :=
  ⟨h.live.dk, h.ra.dk, h.rel, h.cap, h.sep.2.2.2, h.new.1.2.2, h.new.2.1⟩

theorem open_ok_pack (B db eb : Nat) (Dk : DM) (R : RM) (hrel : Rel Dk R) (hcap : Dk.cap ≤ 500) (hc : sopenC Dk = 0) :
    ∃ (H : Nat → World → Prop),
      (∀ w, PD B db eb Dk R w → Calls Try.prog 34 #[.pointer (some ⟨db, 0, none⟩)] w fun e w' => ∃ s, e = .returned (.tuple #[.pointer (some ⟨s, 0, none⟩), .int .i64 0]) ∧ H s w' ∧ Below B w w') ∧
      (∀ s w, H s w → Calls Try.prog 42 #[.pointer (some ⟨eb, 0, none⟩)] w fun e w' => ∃ r, e = .returned (.tuple #[.pointer (some ⟨r, 0, none⟩), .int .i64 0]) ∧ PE B s r db eb 0 w' ∧ Below B w w') := by
  have hd := hrel.okD.data
  have hz : Dk.data.size ≤ 500 := by omega
  have hle := readV_le (s := Dk.data)
  obtain ⟨hrc, hrel2⟩ := rel_open hrel
  rw [hc] at hrc
  refine ⟨fun s w' => ∃ mb, Live w' s ⟨db, mb, (readV Dk.data).1.length, openN Dk.data, openD (readV Dk.data).1⟩ (readV Dk.data).1.length (sopenDk Dk) ∧ w'.heap[eb]? = some R.obj ∧ s ≠ eb ∧ mb ≠ eb ∧ db ≠ eb ∧ B ≤ s ∧ B ≤ mb ∧ B ≤ db ∧ B ≤ eb, ?_, ?_⟩
  · intro w hw
    have l1 := heap_lt hw.hb
    have l2 := heap_lt hw.he
    obtain ⟨n1, n2⟩ := hw.new
    refine (sopen_any db Dk w hrel.okD hw.hb (by omega)).mono ?_
    rintro e w' ⟨hb, -, ⟨h0, -⟩ | ⟨-, s, mb, rfl, hl, hs, hm⟩⟩
    · exact absurd hc h0
    · exact ⟨s, rfl, ⟨mb, hl, (hb.block _ l2 (by simp [hw.ne.symm])).trans hw.he, by omega, by omega, hw.ne, by omega, by omega, n1, n2⟩, hb.below (by omega) (by simp; omega)⟩
  · rintro s w ⟨mb, hl, hbe, a1, a2, a3, n1, n2, n3, n4⟩
    have l1 := heap_lt hl.st.blk
    have l2 := ownsS_lt hl.st.own
    have l3 := heap_lt hl.dk
    have l4 := heap_lt hbe
    dsimp only at l2 l3
    refine (refostore_any eb R w hrel.okR hbe (by rw [hrel.data]; omega)).mono ?_
    rintro e w' ⟨hb, -, ⟨h0, -⟩ | ⟨-, r, v, rfl, hro⟩⟩
    · exact absurd hrc h0
    · have hr := hro.ra
      have r1 := hro.new1
      rw [hrel.data] at hr
      refine ⟨r, rfl, ⟨mb, (readV Dk.data).1.length, _, _, _, _, v, ?_, hr, hrel2, openD_cur _, ?_, ?_, ?_, ?_, ?_, ?_, ?_⟩, hb.below (by omega) (by simp; omega)⟩
      · have := hl.but hb (by simp [a1]) (by simp [a2]) (by simp [a3])
        rw [openN_frames] at this
        exact this
      · intro x hx
        have := readV_sizes hx
        omega
      · omega
      · omega
      · rw [sopen_cap]; exact hcap
      · exact ⟨⟨by omega, a1, by omega⟩, a2, by omega, a3⟩
      · exact ⟨not_own hro.new2 l1, not_own hro.new2 l2, not_own hro.new2 l3⟩
      · exact ⟨⟨n1, by omega, n3⟩, n4, n2⟩

theorem open_bad_pack {B s r db eb mb nn k : Nat} {D : MD} {Dk : DM} {L : List Rec} {R : RM} {v : Value} (hrel : Rel Dk R) (hcap : Dk.cap ≤ 500) (hc : ¬ sopenC Dk = 0) :
    ∃ (H : World → Prop),
      (∀ w, PX B s r db eb mb nn k D Dk L R v w → Calls Try.prog 34 #[.pointer (some ⟨db, 0, none⟩)] w fun e w' => e = .returned (.tuple #[.pointer none, .int .i64 (sopenC Dk)]) ∧ H w' ∧ Below B w w') ∧
      (∀ w, H w → Calls Try.prog 42 #[.pointer (some ⟨eb, 0, none⟩)] w fun e w' => e = .returned (.tuple #[.pointer none, .int .i64 (sopenC Dk)]) ∧ PE B s r db eb (k + 1) w' ∧ Below B w w') := by
  have hd := hrel.okD.data
  have hz : Dk.data.size ≤ 500 := by omega
  obtain ⟨hrc, hrel2⟩ := rel_open hrel
  refine ⟨fun w' => ∃ w, PX B s r db eb mb nn k D Dk L R v w ∧ But [db] w w' ∧ w'.heap[db]? = some (sopenDk Dk).obj, ?_, ?_⟩
  · intro w hw
    have n3 := hw.new.1.2.2
    have hB := hw.B_le
    refine (sopen_any db Dk w hrel.okD hw.live.dk (by omega)).mono ?_
    rintro e w' ⟨hb, hbk, ⟨-, rfl⟩ | ⟨h0, -⟩⟩
    · exact ⟨rfl, ⟨w, hw, hb, hbk⟩, hb.below hB (by simp; omega)⟩
    · exact absurd h0 hc
  · rintro w' ⟨w, hw, hb, hbk⟩
    have n4 := hw.new.2.1
    have hB := hw.B_le
    have hne := hw.sep.2.2.2
    refine (refostore_any eb R w' hrel.okR ((hb.block _ (heap_lt hw.ra.dk) (by simp [hne.symm])).trans hw.ra.dk) (by rw [hrel.data]; omega)).mono ?_
    rw [hrc]
    rintro e w2 ⟨hb2, hbk2, ⟨-, rfl⟩ | ⟨h0, -⟩⟩
    · exact ⟨rfl, ⟨mb, nn, D, _, L, _, v, (hw.disks hb hbk hb2 hbk2 hrel2 (by rw [sopen_cap]; exact hcap)).mono (by omega)⟩, hb2.below (Nat.le_trans hB hb.size) (by simp; omega)⟩
    · exact absurd h0 hc

theorem same_pack {B s r db eb k : Nat} {w : World} (h : PE B s r db eb k w) (hk : k ≤ 26) :
    Calls Try.prog 48 #[.pointer (some ⟨s, 0, none⟩), .pointer (some ⟨r, 0, none⟩), .pointer (some ⟨db, 0, none⟩), .pointer (some ⟨eb, 0, none⟩)] w fun e w' => e = .returned (.bool true) ∧ Below w.heap.size w w' := by
  obtain ⟨mb, nn, D, Dk, L, R, v, h⟩ := h
  have h1 := h.len
  have h2 := h.nn
  exact same_any s r eb mb db nn D Dk L R v w h.live h.ra h.rel h.cur (by omega) (by omega) (fun x hx => by have := h.small x hx; omega)
end Go.Proofs.Ytmflngpgmmgohaa
