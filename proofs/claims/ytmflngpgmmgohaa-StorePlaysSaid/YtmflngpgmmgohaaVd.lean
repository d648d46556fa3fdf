/-
  Walks: StoreCompacts.
-/
import Derived.Test.YtmflngpgmmgohaaVc
namespace Go.Proofs.Ytmflngpgmmgohaa
open Go.RowKit Go.Shelf Go.Sort

/-! ### What one Put does to a quiet disk -/
theorem Log.small2 {Dk : DM} {l : List Rec} (h : Log Dk l) : Dk.data.size ≤ 58 * l.length := by
  have := framesB_size h.small; rw [h.data]; exact this
theorem round_pack2 {kk D' : ByteArray} {Dk : DM} {L : List Rec} {nn s mb db : Nat} {D : MD} (hlog : Log Dk L) (hcur : Cur D L) (hl : L.length ≤ 7) (hnn : nn ≤ L.length) (hk : kk.size ≤ 20) (hd : D'.size ≤ 30) :
    ∃ (D2 : MD) (Dk2 : DM), Log Dk2 (L ++ [(kk, D')]) ∧ Cur D2 (L ++ [(kk, D')]) ∧ ∀ w, Live w s ⟨db, mb, L.length, Dk.data.size, D⟩ nn Dk → Calls Try.prog 35 #[.pointer (some ⟨s, 0, none⟩), .string kk, .string D'] w fun e w' =>
      e = .returned (.int .i64 0) ∧ Live w' s ⟨db, mb, L.length + 1, Dk2.data.size, D2⟩ (nn + 1) Dk2 ∧ But [s, mb, db] w w' := by
  obtain ⟨hpc, hlog2⟩ := hlog.put (by omega) hk hd
  have hsz := hlog.size
  obtain ⟨_, h4⟩ := putC_quiet (Dk := Dk) (k := kk) (d := D') hlog.crashed hlog.armed (by have := frameB_small (k := kk) (d := D') (by omega) (by omega); rw [hlog.cap]; omega)
  have h5 : (putDk Dk kk D').data.size = Dk.data.size + (frameB kk D').size := by rw [h4]; simp
  refine ⟨setD D kk D', putDk Dk kk D', hlog2, hcur.set kk D', fun w h => ?_⟩
  have := put_any s ⟨db, mb, L.length, Dk.data.size, D⟩ nn Dk kk D' w h hlog.ok (by omega) (by omega) (by omega) (by dsimp only; omega) (by dsimp only; omega)
  have hpS : putS ⟨db, mb, L.length, Dk.data.size, D⟩ Dk kk D' = ⟨db, mb, L.length + 1, (putDk Dk kk D').data.size, setD D kk D'⟩ := by unfold putS; rw [if_pos hpc, h5]
  rw [hpc, hpS] at this
  exact this

/-! ### What Compact does to a quiet disk -/
theorem compact_pack {Dk : DM} {L : List Rec} {nn s mb db : Nat} {D : MD} (hlog : Log Dk L) (hcur : Cur D L) (hT : Tid D) (hl : L.length ≤ 8) (hnn : nn ≤ L.length) :
    ∃ (n2 size2 : Nat) (Dk2 : DM), Dk2.data.size ≤ Dk.data.size ∧ Dk2.syn = Dk2.data.size ∧ (¬ Dk2.data.size = Dk.data.size → (readV Dk2.data).1.length = (KS D).length ∧ n2 = (KS D).length) ∧
      ∀ w, Live w s ⟨db, mb, L.length, Dk.data.size, D⟩ nn Dk → Calls Try.prog 39 #[.pointer (some ⟨s, 0, none⟩)] w fun e w' => e = .returned (.int .i64 0) ∧ Live w' s ⟨db, mb, n2, size2, D⟩ nn Dk2 ∧ But [s, db] w w' := by
  have hsm := hcur.small hT hlog.small
  have hsz := hlog.small2
  have hTs := framesB_size hsm
  have hC := fun w h => compact_any s ⟨db, mb, L.length, Dk.data.size, D⟩ nn Dk w h (by omega) hlog.ok hsm.small (by
    have e := hT.length
    have : Maps.size D ≤ nn := World.ownsMap.size_le h.st.own
    rw [comp_length] at hTs; dsimp only; omega) (by dsimp only; omega)
  dsimp only at hC
  by_cases hlt : Dk.data.size ≤ (framesB (comp D)).size
  · refine ⟨L.length, Dk.data.size, Dk, Nat.le_refl _, hlog.syn, fun h => absurd rfl h, fun w h => (hC w h).mono ?_⟩
    rintro e w' (⟨_, rfl, h1, h2⟩ | ⟨h0, _⟩)
    · exact ⟨rfl, h1, h2⟩
    · omega
  · have hq1 : Dk.crashed = false := hlog.crashed
    have hq2 : Dk.armed = false := hlog.armed
    have hq3 := hlog.cap
    have hok := hlog.ok
    have e1 : Dk.truncC 0 = 0 := by simp [DM.truncC, hq1, DM.strikes, hq2]
    have e2 : Dk.truncD 0 = { Dk with data := Dk.data.extract 0 0, syn := min Dk.syn 0 } := by simp [DM.truncD, hq1, DM.strikes, hq2, DM.struck]; intro h; omega
    have e3 : (Dk.truncD 0).appendC (framesB (comp D)) = 0 := by
      rw [e2]; simp [DM.appendC, hq1, DM.strikes, hq2]; omega
    have e4 : (Dk.truncD 0).appendD (framesB (comp D)) = { Dk with data := framesB (comp D), syn := 0 } := by
      have hx : ¬ ((framesB (comp D)).size : Int) > Dk.cap := by omega
      rw [e2]; simp [DM.appendD, hq1, DM.strikes, hq2, DM.struck]
      intro h; omega
    have e5 : ((Dk.truncD 0).appendD (framesB (comp D))).syncC = 0 := by rw [e4]; simp [DM.syncC, hq1, DM.strikes, hq2]
    have e6 : ((Dk.truncD 0).appendD (framesB (comp D))).syncD = { Dk with data := framesB (comp D), syn := (framesB (comp D)).size } := by rw [e4]; simp [DM.syncD, hq1, DM.strikes, hq2, DM.struck]
    have hcc : compC Dk (framesB (comp D)) = 0 := by unfold compC; rw [if_pos e1, if_pos e3, e5]
    have hcd : compDk Dk (framesB (comp D)) = { Dk with data := framesB (comp D), syn := (framesB (comp D)).size } := by unfold compDk; rw [if_pos e1, if_pos e3, e6]
    rw [hcc, hcd, if_pos rfl] at hC
    refine ⟨Maps.size D, (framesB (comp D)).size, { Dk with data := framesB (comp D), syn := (framesB (comp D)).size }, by dsimp only; omega, rfl, fun _ => ⟨?_, hT.length.symm⟩, fun w h => (hC w h).mono ?_⟩
    · dsimp only; rw [comp_read hsm, comp_length]
    · rintro e w' (⟨h0, _⟩ | ⟨_, rfl, h1, h2⟩)
      · omega
      · exact ⟨rfl, h1, h2⟩

theorem str_info : (Try.prog.info? 9).map (fun i => (i.zero, i.size, i.bytes)) = some (some (.string ⟨#[]⟩), 1, 16) := by kernel_rfl
theorem wpList_append_str {ops : Array Oper} {rest : List Oper} {o : Oper} {a : Act} {Q : Exit → Act → World → Prop} (hgd : o.guard = none) (s x : Operand) (t : TypeId)
    (ho : o.op = .call { callee := .builtin .append, args := #[s, x], argTypes := #[t, t] }) (ht : Try.prog.underlying t = some (.slice 9))
    (B : Nat) (w0 : World) (g : Nat) (hg : g = w0.heap.size) (hB : B ≤ w0.heap.size) (d : ByteArray) (v : Value) (n : Nat) (xs : List Value) (hs : a.eval s = v) (hown : w0.ownsRow B 9 1 v n xs) (hn : n ≤ 1048576)
    (hx : a.eval x = .slice (some ⟨g, 0, none⟩) 1 1)
    (h : ∀ v' w', w'.ownsRow B 9 1 v' (n + 1) (xs ++ [.string d]) → (∀ w, Below B w w0 → Below B w w') → wpList Try.prog ops Q rest (a.put o.dst v') w') :
    wpList Try.prog ops Q (o :: rest) a (w0.alloc (.cells #[.string d] 9)) := by
  subst hg
  obtain ⟨i0, hi0, hz0, hz1, hz2⟩ := info_parts str_info
  refine wpList_append_own _ hgd s x t ho B 9 i0 _ 1 16 ht hi0 hz0 hz1 hz2 rfl (by decide) v n xs hs (hown.alloc _) ⟨w0.heap.size, 0, none⟩ 1 1 [.string d] hx rfl ?_ ?_ (by unfold maxLen; omega) (by omega) (by simp; omega) ?_
  · intro j u hj
    have hc : ∀ i, (w0.alloc (.cells #[.string d] 9)).cell? ⟨w0.heap.size, i, none⟩ = (#[Value.string d] : Array Value)[i]? := fun i => cell_of_row _ _ _ _ _ _ (heap_alloc_new _ _)
    match j, hj with
    | 0, hj => simp at hj; subst hj; exact hc 0
    | (j + 1), hj => simp at hj
  · intro u hu; simp at hu; subst hu; rfl
  · intro v' w' ho' hg' _
    exact h v' w' ho' (fun w hw => (hw.alloc hB _).grown hg' (by simp; omega) (fun q hq => (hown.lt q hq).1))

/-- What the loop of Puts has. -/
structure P1 (w : World) (s mb : Nat) (k : Nat) (wr : World) : Prop where
  run : ∃ (L : List Rec) (nn : Nat) (D : MD) (Dk : DM), L.length ≤ 8 ∧ L.length ≤ k ∧ nn ≤ L.length ∧ Log Dk L ∧ Cur D L ∧ Live wr s ⟨w.heap.size, mb, L.length, Dk.data.size, D⟩ nn Dk
  below : Below w.heap.size w wr

theorem ownsRow9_below {B : Nat} {w w1 : World} {b n : Nat} {v : Value} {xs : List Value} (h : w.ownsRow b 9 1 v n xs) (hB : Below B w w1) (hw : w.heap.size ≤ B) : w1.ownsRow b 9 1 v n xs := by
  refine ⟨h.1, ?_⟩
  rcases h.2 with h2 | ⟨g, cap, cur, rfl, h4, h5, h6⟩
  · exact .inl h2
  · refine .inr ⟨g, cap, cur, rfl, h4, ?_, h6⟩
    rw [hB.block g (Nat.lt_of_lt_of_le (heap_lt h5) hw)]; exact h5
theorem ownsRow9_but {w w' : World} {B n : Nat} {v : Value} {xs : List Value} {S : List Nat} (h : w.ownsRow B 9 1 v n xs) (hb : But S w w') (hS : ∀ x ∈ S, x < B) : w'.ownsRow B 9 1 v n xs := by
  refine ⟨h.1, ?_⟩
  rcases h.2 with h2 | ⟨g, cap, cur, rfl, h4, h5, h6⟩
  · exact .inl h2
  · refine .inr ⟨g, cap, cur, rfl, h4, ?_, h6⟩
    rw [hb.block g (heap_lt h5) (fun hx => by have := hS _ hx; omega)]; exact h5
theorem keys_small {D : MD} {L : List Rec} (h : Cur D L) (hT : Tid D) (hs : SmallC L) : ∀ x ∈ KS D, x.length ≤ 20 := fun x hx => by
  have := (h.small hT hs (recOf D x) (List.mem_map.2 ⟨x, hx, rfl⟩)).1
  have h2 : x.toArray.size ≤ 20 := this
  simpa using h2
def dOf (D : MD) (k : List UInt8) : List UInt8 := (dataOf D ⟨k.toArray⟩).data.toList
theorem encStr_dOf (D : MD) (k : List UInt8) : encStr (dOf D k) = .string (dataOf D ⟨k.toArray⟩) := by simp [encStr, dOf]
theorem get_pack {D : MD} {nn s mb db n size : Nat} {Dk : DM} (hT : Tid D) {k : List UInt8} (hk : k ∈ KS D) (hz : k.length ≤ 1048576) (w : World) (h : Live w s ⟨db, mb, n, size, D⟩ nn Dk) :
    Calls Try.prog 38 #[.pointer (some ⟨s, 0, none⟩), .string ⟨k.toArray⟩] w fun e w' => e = .returned (.tuple #[.string (dataOf D ⟨k.toArray⟩), .bool true]) ∧ w = w' := by
  refine (get_any s ⟨db, mb, n, size, D⟩ nn ⟨k.toArray⟩ w h.st (by show k.toArray.size ≤ _; simpa using hz)).mono ?_
  rintro e w' ⟨⟨v, rfl, hv⟩, rfl⟩
  have h1 := (hT.mem k).1 hk
  have e1 : sk ⟨k.toArray⟩ = .string k := by simp [sk]
  dsimp only at hv ⊢
  rw [e1, h1]
  exact ⟨by rw [dataOf_eq hv], rfl⟩

set_option maxRecDepth 100000 in
set_option maxHeartbeats 16000000 in
theorem compacts_walk (p : Option Addr) (len cap : Nat) (w : World) (hrow : RecsRow w p len) (hlen : len ≤ 9223372036854775807) :
    Calls Try.prog 9 #[.slice p len cap] w fun e w' => e = .returned (.bool true) ∧ Below w.heap.size w w' := by
  have Hrow := Lib.hid hrow; clear hrow
  have hN : Calls Try.prog 11 #[.int .i64 5000] w fun e w' => e = .returned (.pointer (some ⟨w.heap.size, 0, none⟩)) ∧ w.alloc (fresh 5000).obj = w' := new_any 5000 _
  have hO := sopen_fresh 5000 (by omega) (by omega) w
  have hob := Log.fresh
  generalize fresh 5000 = F0 at *
  have Hob := Lib.hid hob; clear hob
  go_enter Try.func9, Try.ntmps9
  go_wp2_with (first
    | ((with_reducible refine at_region ?_); with_reducible refine Lex.wp_region_lex (by kernel_rfl) (by decide +kernel) ?_)
    | ((with_reducible refine at_fin ?_); with_reducible refine Lex.fin_on (by kernel_rfl) ?_)
    | (go_at_call 11; refine hN.mono ?_; rintro e w1 ⟨rfl, rfl⟩)
    | (go_at_call 34; refine hO.mono ?_; rintro e w2 ⟨s, mb, rfl, hl2, hb2, hs2, hm2⟩; have HL2 := Lib.hid hl2; clear hl2))
  have hF0 : F0.data.size = 0 := by have := Hob.out.data; rw [this]; rfl
  go_loopw [36] (fun i wr => ∃ k : Nat, i = .int .i64 k ∧ k ≤ len ∧ P1 w s mb k wr) (fun i _ => len - (intOf i).toNat)
  case atStart => exact ⟨0, rfl, by omega, ⟨[], 0, .map [], F0, by simp, by simp, by simp, Hob.out, Cur.nil, by rw [hF0]; exact HL2.out⟩, hb2⟩
  clear hF0
  case round =>
    obtain ⟨k, rfl, hk, hp⟩ := hrel
    obtain ⟨L, nn, D, Dk, hL8, hLk, hnn, hlog, hcur, hlive⟩ := hp.run
    have hbw := hp.below
    clear hp
    by_cases hlt : k < len
    · obtain ⟨ab, off, K, D1, rfl, hab, hc0, hc1⟩ := Hrow.out k hlt
      have x0 := (hbw.cell (p := ⟨ab, off + k * 2, none⟩) hab).trans hc0
      have x1 := (hbw.cell (p := ⟨ab, off + k * 2 + 1, none⟩) hab).trans hc1
      clear hc0 hc1
      have hC := fun w => lawcut_any (K, D1) w
      have hz := cutK_size (K, D1)
      generalize cutK (K, D1) = r at *
      obtain ⟨K', D'⟩ := r
      dsimp only at hC hz
      obtain ⟨hz1, hz2⟩ := hz
      have hf0 := field44_0 K D1
      have hf1 := field44_1 K D1
      have ls := heap_lt hlive.st.blk
      have lm := ownsS_lt hlive.st.own
      have ld := heap_lt hlive.dk
      dsimp only at lm ld
      have Hlog := Lib.hid hlog; clear hlog
      have Hcur := Lib.hid hcur; clear hcur
      have Hlive := Lib.hid hlive; clear hlive
      have Hbw := Lib.hid hbw; clear hbw
      by_cases h8 : k < 8
      · have hr3 : ∃ r : Nat, r < 3 ∧ ((K'.size : Int).tmod 3) = r := ⟨K'.size % 3, by omega, by rw [Int.tmod_eq_emod_of_nonneg (by omega)]; omega⟩
        obtain ⟨r, hr, hre⟩ := hr3
        by_cases hr0 : r = 0
        · subst hr0
          obtain ⟨D2, Dk2, hlog2, hcur2, hP⟩ := round_pack2 (kk := ⟨#[97]⟩) (s := s) (mb := mb) (db := w.heap.size) Hlog.out Hcur.out (by omega) hnn (by decide) hz2
          have Hlog2 := Lib.hid hlog2; clear hlog2
          have Hcur2 := Lib.hid hcur2; clear hcur2
          generalize hsz2 : Dk2.data.size = sz2 at *
          have Hsz2 := Lib.hid hsz2; clear hsz2
          go_upto_region 9 with (go_at_call 25; refine (hC _).mono ?_; rintro e w3 ⟨rfl, hb3⟩)
          have q0 := heap_alloc_new w3 (.cells #[.string K', .string D'] 44)
          have q2 : Below w3.heap.size w3 (w3.alloc (.cells #[.string K', .string D'] 44)) := (Below.refl _ _).alloc (Nat.le_refl _) _
          generalize w3.alloc (.cells #[.string K', .string D'] 44) = w4 at *
          have y0a : w4.cell? ⟨w3.heap.size, 0, none⟩ = some (.string K') := cell_of_row _ _ _ _ _ _ q0
          have y1a : w4.cell? ⟨w3.heap.size, 1, none⟩ = some (.string D') := cell_of_row _ _ _ _ _ _ q0
          have y0b : ∀ o, (w4.alloc o).drew.cell? ⟨w3.heap.size, 0, none⟩ = some (.string K') := fun o => ((((Below.refl _ w4).alloc (Nat.le_refl _) o)).cell (p := ⟨w3.heap.size, 0, none⟩) (heap_lt q0)).trans y0a
          have y1b : ∀ o, (w4.alloc o).drew.cell? ⟨w3.heap.size, 1, none⟩ = some (.string D') := fun o => ((((Below.refl _ w4).alloc (Nat.le_refl _) o)).cell (p := ⟨w3.heap.size, 1, none⟩) (heap_lt q0)).trans y1a
          have y0 := Lib.hid (show w4.drew.cell? ⟨w3.heap.size, 0, none⟩ = some (.string K') from y0a)
          have y1 := Lib.hid (show w4.drew.cell? ⟨w3.heap.size, 1, none⟩ = some (.string D') from y1a)
          have Hq0 := Lib.hid q0; clear q0
          have hw3 := hb3.size
          simp only [World.alloc, Array.size_push] at hw3
          have Hoff := Lib.hid (show ∀ x ∈ [s, mb, w.heap.size], ¬ (fun b => b = w3.heap.size) x by simp; omega)
          have hbq : Below wr.heap.size wr w4 := ((((Below.refl _ wr).alloc (Nat.le_refl _) _).step hb3)).step q2
          have Hbq := Lib.hid hbq; clear hbq
          have HL4 := fun o => Lib.hid ((Hlive.out.below Hbq.out).below ((Below.refl _ w4).alloc (Nat.le_refl _) o)).drew
          go_wp2_with (first
            | ((with_reducible refine at_finK ?_); refine LexK.finE_on (by kernel_rfl) (by repeat first | exact LexK.finL_nil | refine LexK.finL_none rfl ?_ | refine LexK.finL_skip (by decide +kernel) ?_ | refine LexK.finL_take rfl rfl y0.out ?_ | refine LexK.finL_take rfl rfl y1.out ?_ | refine LexK.finL_unwanted (by kernel_rfl) ?_) ?_)
            | ((with_reducible refine at_region ?_); with_reducible refine Lex.wp_region_lex (by kernel_rfl) (by decide +kernel) ?_)
            | ((with_reducible refine at_fin ?_); with_reducible refine Lex.fin_on (by kernel_rfl) ?_)
            | ((with_reducible refine at_region ?_); refine LexK.wp_region_lexE (fun b => b = w3.heap.size) (by kernel_rfl) (by decide +kernel) ?_)
            | ((with_reducible refine at_wpX ?_); with_reducible refine LexK.wpX_plain (by decide +kernel) ?_)
            | ((with_reducible refine at_wpX ?_); with_reducible refine LexK.wpX_call ?_)
            | ((with_reducible refine at_wpX ?_); with_reducible refine LexK.wpX_nil ?_)
            | ((with_reducible refine at_ext ?_); with_reducible refine LexK.ext_on (LexK.Ext.alloc _ _) ?_)
            | ((with_reducible refine at_ext ?_); with_reducible refine LexK.ext_on (ext_but hb5 Hoff.out) ?_)
            | (go_at_call 35; refine (hP _ (HL4 _).out).mono ?_; rintro e w5 ⟨rfl, hl5, hb5⟩; have HL5 := Lib.hid hl5; clear hl5))
          have e1 : Below w.heap.size w w4 := Hbw.out.step Hbq.out
          refine ⟨⟨k + 1, by go_num, by omega, ⟨L ++ [(⟨#[97]⟩, D')], nn + 1, D2, Dk2, by simp; omega, by simp; omega, by simp; omega, Hlog2.out, Hcur2.out, ?_⟩, ?_⟩, by simp [intOf]; omega⟩
          · rw [List.length_append, Hsz2.out]; exact HL5.out
          · have e2 := ((e1.alloc e1.size (.cells #[.string ⟨#[97]⟩, .string ⟨#[98]⟩, .string ⟨#[99]⟩] 9)).drew)
            exact e2.trans (hb5.below e2.size (by simp; omega))
        by_cases hr1 : r = 1
        · subst hr1
          obtain ⟨D2, Dk2, hlog2, hcur2, hP⟩ := round_pack2 (kk := ⟨#[98]⟩) (s := s) (mb := mb) (db := w.heap.size) Hlog.out Hcur.out (by omega) hnn (by decide) hz2
          have Hlog2 := Lib.hid hlog2; clear hlog2
          have Hcur2 := Lib.hid hcur2; clear hcur2
          generalize hsz2 : Dk2.data.size = sz2 at *
          have Hsz2 := Lib.hid hsz2; clear hsz2
          go_upto_region 9 with (go_at_call 25; refine (hC _).mono ?_; rintro e w3 ⟨rfl, hb3⟩)
          have q0 := heap_alloc_new w3 (.cells #[.string K', .string D'] 44)
          have q2 : Below w3.heap.size w3 (w3.alloc (.cells #[.string K', .string D'] 44)) := (Below.refl _ _).alloc (Nat.le_refl _) _
          generalize w3.alloc (.cells #[.string K', .string D'] 44) = w4 at *
          have y0a : w4.cell? ⟨w3.heap.size, 0, none⟩ = some (.string K') := cell_of_row _ _ _ _ _ _ q0
          have y1a : w4.cell? ⟨w3.heap.size, 1, none⟩ = some (.string D') := cell_of_row _ _ _ _ _ _ q0
          have y0b : ∀ o, (w4.alloc o).drew.cell? ⟨w3.heap.size, 0, none⟩ = some (.string K') := fun o => ((((Below.refl _ w4).alloc (Nat.le_refl _) o)).cell (p := ⟨w3.heap.size, 0, none⟩) (heap_lt q0)).trans y0a
          have y1b : ∀ o, (w4.alloc o).drew.cell? ⟨w3.heap.size, 1, none⟩ = some (.string D') := fun o => ((((Below.refl _ w4).alloc (Nat.le_refl _) o)).cell (p := ⟨w3.heap.size, 1, none⟩) (heap_lt q0)).trans y1a
          have y0 := Lib.hid (show w4.drew.cell? ⟨w3.heap.size, 0, none⟩ = some (.string K') from y0a)
          have y1 := Lib.hid (show w4.drew.cell? ⟨w3.heap.size, 1, none⟩ = some (.string D') from y1a)
          have Hq0 := Lib.hid q0; clear q0
          have hw3 := hb3.size
          simp only [World.alloc, Array.size_push] at hw3
          have Hoff := Lib.hid (show ∀ x ∈ [s, mb, w.heap.size], ¬ (fun b => b = w3.heap.size) x by simp; omega)
          have hbq : Below wr.heap.size wr w4 := ((((Below.refl _ wr).alloc (Nat.le_refl _) _).step hb3)).step q2
          have Hbq := Lib.hid hbq; clear hbq
          have HL4 := fun o => Lib.hid ((Hlive.out.below Hbq.out).below ((Below.refl _ w4).alloc (Nat.le_refl _) o)).drew
          go_wp2_with (first
            | ((with_reducible refine at_finK ?_); refine LexK.finE_on (by kernel_rfl) (by repeat first | exact LexK.finL_nil | refine LexK.finL_none rfl ?_ | refine LexK.finL_skip (by decide +kernel) ?_ | refine LexK.finL_take rfl rfl y0.out ?_ | refine LexK.finL_take rfl rfl y1.out ?_ | refine LexK.finL_unwanted (by kernel_rfl) ?_) ?_)
            | ((with_reducible refine at_region ?_); with_reducible refine Lex.wp_region_lex (by kernel_rfl) (by decide +kernel) ?_)
            | ((with_reducible refine at_fin ?_); with_reducible refine Lex.fin_on (by kernel_rfl) ?_)
            | ((with_reducible refine at_region ?_); refine LexK.wp_region_lexE (fun b => b = w3.heap.size) (by kernel_rfl) (by decide +kernel) ?_)
            | ((with_reducible refine at_wpX ?_); with_reducible refine LexK.wpX_plain (by decide +kernel) ?_)
            | ((with_reducible refine at_wpX ?_); with_reducible refine LexK.wpX_call ?_)
            | ((with_reducible refine at_wpX ?_); with_reducible refine LexK.wpX_nil ?_)
            | ((with_reducible refine at_ext ?_); with_reducible refine LexK.ext_on (LexK.Ext.alloc _ _) ?_)
            | ((with_reducible refine at_ext ?_); with_reducible refine LexK.ext_on (ext_but hb5 Hoff.out) ?_)
            | (go_at_call 35; refine (hP _ (HL4 _).out).mono ?_; rintro e w5 ⟨rfl, hl5, hb5⟩; have HL5 := Lib.hid hl5; clear hl5))
          have e1 : Below w.heap.size w w4 := Hbw.out.step Hbq.out
          refine ⟨⟨k + 1, by go_num, by omega, ⟨L ++ [(⟨#[98]⟩, D')], nn + 1, D2, Dk2, by simp; omega, by simp; omega, by simp; omega, Hlog2.out, Hcur2.out, ?_⟩, ?_⟩, by simp [intOf]; omega⟩
          · rw [List.length_append, Hsz2.out]; exact HL5.out
          · have e2 := ((e1.alloc e1.size (.cells #[.string ⟨#[97]⟩, .string ⟨#[98]⟩, .string ⟨#[99]⟩] 9)).drew)
            exact e2.trans (hb5.below e2.size (by simp; omega))
        by_cases hr2 : r = 2
        · subst hr2
          obtain ⟨D2, Dk2, hlog2, hcur2, hP⟩ := round_pack2 (kk := ⟨#[99]⟩) (s := s) (mb := mb) (db := w.heap.size) Hlog.out Hcur.out (by omega) hnn (by decide) hz2
          have Hlog2 := Lib.hid hlog2; clear hlog2
          have Hcur2 := Lib.hid hcur2; clear hcur2
          generalize hsz2 : Dk2.data.size = sz2 at *
          have Hsz2 := Lib.hid hsz2; clear hsz2
          go_upto_region 9 with (go_at_call 25; refine (hC _).mono ?_; rintro e w3 ⟨rfl, hb3⟩)
          have q0 := heap_alloc_new w3 (.cells #[.string K', .string D'] 44)
          have q2 : Below w3.heap.size w3 (w3.alloc (.cells #[.string K', .string D'] 44)) := (Below.refl _ _).alloc (Nat.le_refl _) _
          generalize w3.alloc (.cells #[.string K', .string D'] 44) = w4 at *
          have y0a : w4.cell? ⟨w3.heap.size, 0, none⟩ = some (.string K') := cell_of_row _ _ _ _ _ _ q0
          have y1a : w4.cell? ⟨w3.heap.size, 1, none⟩ = some (.string D') := cell_of_row _ _ _ _ _ _ q0
          have y0b : ∀ o, (w4.alloc o).drew.cell? ⟨w3.heap.size, 0, none⟩ = some (.string K') := fun o => ((((Below.refl _ w4).alloc (Nat.le_refl _) o)).cell (p := ⟨w3.heap.size, 0, none⟩) (heap_lt q0)).trans y0a
          have y1b : ∀ o, (w4.alloc o).drew.cell? ⟨w3.heap.size, 1, none⟩ = some (.string D') := fun o => ((((Below.refl _ w4).alloc (Nat.le_refl _) o)).cell (p := ⟨w3.heap.size, 1, none⟩) (heap_lt q0)).trans y1a
          have y0 := Lib.hid (show w4.drew.cell? ⟨w3.heap.size, 0, none⟩ = some (.string K') from y0a)
          have y1 := Lib.hid (show w4.drew.cell? ⟨w3.heap.size, 1, none⟩ = some (.string D') from y1a)
          have Hq0 := Lib.hid q0; clear q0
          have hw3 := hb3.size
          simp only [World.alloc, Array.size_push] at hw3
          have Hoff := Lib.hid (show ∀ x ∈ [s, mb, w.heap.size], ¬ (fun b => b = w3.heap.size) x by simp; omega)
          have hbq : Below wr.heap.size wr w4 := ((((Below.refl _ wr).alloc (Nat.le_refl _) _).step hb3)).step q2
          have Hbq := Lib.hid hbq; clear hbq
          have HL4 := fun o => Lib.hid ((Hlive.out.below Hbq.out).below ((Below.refl _ w4).alloc (Nat.le_refl _) o)).drew
          go_wp2_with (first
            | ((with_reducible refine at_finK ?_); refine LexK.finE_on (by kernel_rfl) (by repeat first | exact LexK.finL_nil | refine LexK.finL_none rfl ?_ | refine LexK.finL_skip (by decide +kernel) ?_ | refine LexK.finL_take rfl rfl y0.out ?_ | refine LexK.finL_take rfl rfl y1.out ?_ | refine LexK.finL_unwanted (by kernel_rfl) ?_) ?_)
            | ((with_reducible refine at_region ?_); with_reducible refine Lex.wp_region_lex (by kernel_rfl) (by decide +kernel) ?_)
            | ((with_reducible refine at_fin ?_); with_reducible refine Lex.fin_on (by kernel_rfl) ?_)
            | ((with_reducible refine at_region ?_); refine LexK.wp_region_lexE (fun b => b = w3.heap.size) (by kernel_rfl) (by decide +kernel) ?_)
            | ((with_reducible refine at_wpX ?_); with_reducible refine LexK.wpX_plain (by decide +kernel) ?_)
            | ((with_reducible refine at_wpX ?_); with_reducible refine LexK.wpX_call ?_)
            | ((with_reducible refine at_wpX ?_); with_reducible refine LexK.wpX_nil ?_)
            | ((with_reducible refine at_ext ?_); with_reducible refine LexK.ext_on (LexK.Ext.alloc _ _) ?_)
            | ((with_reducible refine at_ext ?_); with_reducible refine LexK.ext_on (ext_but hb5 Hoff.out) ?_)
            | (go_at_call 35; refine (hP _ (HL4 _).out).mono ?_; rintro e w5 ⟨rfl, hl5, hb5⟩; have HL5 := Lib.hid hl5; clear hl5))
          have e1 : Below w.heap.size w w4 := Hbw.out.step Hbq.out
          refine ⟨⟨k + 1, by go_num, by omega, ⟨L ++ [(⟨#[99]⟩, D')], nn + 1, D2, Dk2, by simp; omega, by simp; omega, by simp; omega, Hlog2.out, Hcur2.out, ?_⟩, ?_⟩, by simp [intOf]; omega⟩
          · rw [List.length_append, Hsz2.out]; exact HL5.out
          · have e2 := ((e1.alloc e1.size (.cells #[.string ⟨#[97]⟩, .string ⟨#[98]⟩, .string ⟨#[99]⟩] 9)).drew)
            exact e2.trans (hb5.below e2.size (by simp; omega))
        omega
      · go_wp2_with (first
          | ((with_reducible refine at_finK ?_); refine LexK.finE_on (by kernel_rfl) (by repeat first | exact LexK.finL_nil | refine LexK.finL_none rfl ?_ | refine LexK.finL_skip (by decide +kernel) ?_ | refine LexK.finL_take rfl rfl y0.out ?_ | refine LexK.finL_take rfl rfl y1.out ?_ | refine LexK.finL_unwanted (by kernel_rfl) ?_) ?_)
          | ((with_reducible refine at_region ?_); with_reducible refine Lex.wp_region_lex (by kernel_rfl) (by decide +kernel) ?_)
          | ((with_reducible refine at_fin ?_); with_reducible refine Lex.fin_on (by kernel_rfl) ?_)
          | ((with_reducible refine at_region ?_); refine LexK.wp_region_lexE (fun b => b = w3.heap.size) (by kernel_rfl) (by decide +kernel) ?_)
          | ((with_reducible refine at_wpX ?_); with_reducible refine LexK.wpX_plain (by decide +kernel) ?_)
          | ((with_reducible refine at_wpX ?_); with_reducible refine LexK.wpX_call ?_)
          | ((with_reducible refine at_wpX ?_); with_reducible refine LexK.wpX_nil ?_)
          | ((with_reducible refine at_ext ?_); with_reducible refine LexK.ext_on (LexK.Ext.alloc _ _) ?_)
          | ((with_reducible refine at_ext ?_); refine LexK.ext_on ⟨Nat.le_refl _, fun _ _ _ => rfl⟩ ?_)
          | (go_at_call 25; refine (hC _).mono ?_; rintro e w3 ⟨rfl, hb3⟩))
        have hbq : Below wr.heap.size wr (w3.alloc (.cells #[.string K', .string D'] 44)) := ((((Below.refl _ wr).alloc (Nat.le_refl _) _).step hb3)).alloc (by have := hb3.size; simp at this; omega) _
        exact ⟨⟨k + 1, by go_num, by omega, ⟨L, nn, D, Dk, hL8, by omega, hnn, Hlog.out, Hcur.out, (Hlive.out.below hbq).drew⟩, (Hbw.out.step hbq).drew⟩, by simp [intOf]; omega⟩
    · obtain rfl : k = len := by omega
      obtain ⟨w4, hw4⟩ : ∃ x, x = wr := ⟨_, rfl⟩
      subst hw4
      have hT := ownsS_tid hlive.st.own
      have hKz := keys_small hcur hT hlog.small
      have h9 : Maps.size D ≤ nn := World.ownsMap.size_le hlive.st.own
      have hKl : (KS D).length ≤ 8 := by rw [hT.length]; exact Nat.le_trans h9 (by omega)
      clear h9
      have hKV := keys_val s ⟨w.heap.size, mb, L.length, Dk.data.size, D⟩ nn w4 hlive.st (by omega)
      obtain ⟨n2, size2, Dk2, hds, hsyn, hcmp, hCp⟩ := compact_pack (s := s) (mb := mb) (db := w.heap.size) hlog hcur hT hL8 hnn
      have hLd := len_any w.heap.size Dk _ hlive.dk
      have hdz := hlog.size
      have hG := fun k (hk : k ∈ KS D) wx h => get_pack (mb := mb) (s := s) (db := w.heap.size) (n := L.length) (size := Dk.data.size) (Dk := Dk) (nn := nn) hT hk (by have := hKz k hk; omega) wx h
      have hG2 := fun k (hk : k ∈ KS D) wx h => get_pack (mb := mb) (s := s) (db := w.heap.size) (n := n2) (size := size2) (Dk := Dk2) (nn := nn) hT hk (by have := hKz k hk; omega) wx h
      have hKV2 := fun wx (h : Live wx s ⟨w.heap.size, mb, n2, size2, D⟩ nn Dk2) => keys_val s ⟨w.heap.size, mb, n2, size2, D⟩ nn wx h.st (by omega)
      have hSm := fun (B1 B2 : Nat) v1 v2 wx h1 h2 => sameTexts_any B1 B2 v1 v2 (KS D) (KS D) wx h1 h2 (by omega) (by omega)
      simp only [decide_true] at hSm
      have hRd := fun wx => reads_val Dk2.data (by omega) wx
      have ls := heap_lt hlive.st.blk
      have lm := ownsS_lt hlive.st.own
      have ld := heap_lt hlive.dk
      dsimp only at lm ld hKV hKV2
      generalize KS D = K at *
      generalize Dk.data.size = was at *
      have Hlive := Lib.hid hlive; clear hlive
      have Hbw := Lib.hid hbw; clear hbw
      clear hlog hcur hT Hrow
      go_wp2_with (first
        | (go_at_call 14; refine hLd.mono ?_; rintro e u1 ⟨rfl, hu1⟩; subst hu1)
        | (go_at_call 37; refine hKV.mono ?_; rintro e w5 ⟨p5, c5, rfl, hrow5, hb5⟩; have Hrow5 := Lib.hid hrow5; clear hrow5))
      go_loopw [11, 66] (fun v i w6 => ∃ k : Nat, i = .int .i64 k ∧ k ≤ K.length ∧ w6.ownsRow w5.heap.size 9 1 v k (((K.take k).map (dOf D)).map encStr) ∧ Below w5.heap.size w5 w6) (fun _ i _ => K.length - (intOf i).toNat)
      case atStart => exact ⟨0, rfl, by omega, World.ownsRow_nil _ _ _ _, Below.refl _ _⟩
      case round =>
        obtain ⟨k, rfl, hk, hdo, hbl⟩ := hrel
        obtain ⟨w6, hw6⟩ : ∃ x, x = wr := ⟨_, rfl⟩
        subst hw6
        have hb5s := hb5.size
        have hl6 := (Hlive.out.below hb5).below (hbl.mono (Nat.le_refl _))
        have hK6 := ownsRow9_below Hrow5.out hbl (Nat.le_refl _)
        by_cases hlt : k < K.length
        · obtain ⟨g, rfl⟩ := ownT_ptr hK6 (by omega)
          have x0 := ownT_cell hK6 hlt
          have hg := hG K[k] (List.getElem_mem hlt) w6 hl6
          have hnext : ((K.take (k + 1)).map (dOf D)).map encStr = ((K.take k).map (dOf D)).map encStr ++ [.string (dataOf D ⟨(K[k]).toArray⟩)] := by
            rw [List.take_succ_eq_append_getElem hlt]; simp only [List.map_append, List.map_cons, List.map_nil, encStr_dOf]
          have Hnext := Lib.hid hnext; clear hnext
          generalize dataOf D ⟨(K[k]).toArray⟩ = dv at *
          generalize (ByteArray.mk (K[k]).toArray) = kk at *
          obtain ⟨pv, cv, rfl⟩ := ownT_slice hdo
          have Hdo := Lib.hid hdo; clear hdo
          have Hl6 := Lib.hid hl6; clear hl6
          have HK6 := Lib.hid hK6; clear hK6
          have hs6 := hbl.size
          have Hbl := Lib.hid hbl; clear hbl
          go_wp2_with (first
            | (go_at_call 38; refine hg.mono ?_; rintro e u6 ⟨rfl, hu6⟩; subst hu6)
            | (at_builtin; refine wpList_append_str rfl (.tmp 76) (.tmp 78) 53 rfl (by kernel_rfl) w5.heap.size w6 _ rfl hs6 dv _ _ _ rfl Hdo.out (by omega) rfl ?_; intro v7 w7 ho7 hb7; have Ho7 := Lib.hid ho7; clear ho7))
          refine ⟨⟨k + 1, by go_num, by omega, ?_, hb7 _ Hbl.out⟩, by simp [intOf]; omega⟩
          rw [Hnext.out]; exact Ho7.out
        · obtain rfl : k = K.length := by omega
          rw [List.take_length] at hdo
          have hs6 := hbl.size
          have hb2s : w.heap.size ≤ w4.heap.size := Hbw.out.size
          have e6 : Below w.heap.size w w6 := (Hbw.out.step hb5).trans (hbl.mono (by omega))
          have He6 := Lib.hid e6; clear e6
          have Hl6 := Lib.hid hl6; clear hl6
          have HK6 := Lib.hid hK6; clear hK6
          have Hdo := Lib.hid hdo; clear hdo
          have hC39 := hCp w6 Hl6.out
          have hSu : ∀ wx (h : Live wx s ⟨w.heap.size, mb, n2, size2, D⟩ nn Dk2), Calls Try.prog 15 #[.pointer (some ⟨w.heap.size, 0, none⟩)] wx fun e w' => e = .returned (.int .i64 Dk2.data.size) ∧ wx = w' := fun wx h => by
            have := synced_any w.heap.size Dk2 wx h.dk; rwa [hsyn] at this
          have hLe := fun wx (h : Live wx s ⟨w.heap.size, mb, n2, size2, D⟩ nn Dk2) => len_any w.heap.size Dk2 wx h.dk
          have hRe := fun wx (h : Live wx s ⟨w.heap.size, mb, n2, size2, D⟩ nn Dk2) => read_any w.heap.size Dk2 wx h.dk
          have hSn := fun wx (h : Live wx s ⟨w.heap.size, mb, n2, size2, D⟩ nn Dk2) => slen_any s _ _ wx h.st
          dsimp only at hSn
          generalize hsz2 : Dk2.data.size = sz2 at *
          clear hsyn hsz2
          have hS1 : ∀ x ∈ [s, w.heap.size], x < w4.heap.size := by simp; omega
          have hS2 : ∀ x ∈ [s, w.heap.size], x < w5.heap.size := by simp; omega
          have hds2 : ¬ ((was : Int) < sz2) := by omega
          have hds3 : decide (was < sz2) = false := by simp; omega
          have hds4 : ¬ (was < sz2) := by omega
          have hKn : ((K.map (dOf D)).map encStr) = ((K.map (dOf D)).map encStr) := rfl
          clear hKn
          go_wp2_with (first
            | (go_at_call 39; refine hC39.mono ?_; rintro e w8 ⟨rfl, hl8, hb8⟩; have Hl8 := Lib.hid hl8; clear hl8)
            | (go_at_call 14; refine (hLe _ Hl8.out).mono ?_; rintro e u8 ⟨rfl, hu8⟩; subst hu8)
            | (go_at_call 15; refine (hSu _ Hl8.out).mono ?_; rintro e u8 ⟨rfl, hu8⟩; subst hu8)
            | (go_at_call 37; refine (hKV2 _ Hl8.out).mono ?_; rintro e w9 ⟨p9, c9, rfl, hrow9, hb9⟩; have Hrow9 := Lib.hid hrow9; clear hrow9)
            | (go_at_call 40; refine (hSm _ _ _ _ _ Hrow9.out (ownsRow9_below (ownsRow9_but HK6.out hb8 hS1) hb9 (Nat.le_refl _))).mono ?_; rintro e w10 ⟨rfl, hb10⟩))
          have hK10 := ownsRow9_below (ownsRow9_below (ownsRow9_but HK6.out hb8 hS1) hb9 (Nat.le_refl _)) hb10 (Nat.le_refl _)
          have hD10 := ownsRow9_below (ownsRow9_below (ownsRow9_but Hdo.out hb8 hS2) hb9 (Nat.le_refl _)) hb10 (Nat.le_refl _)
          have hl10 := (Hl8.out.below hb9).below hb10
          have e8 : Below w.heap.size w w8 := He6.out.trans (hb8.below He6.out.size (by simp; omega))
          have e10 := (e8.step hb9).step hb10
          have HK10 := Lib.hid hK10; clear hK10
          have HD10 := Lib.hid hD10; clear hD10
          have Hl10 := Lib.hid hl10; clear hl10
          have He10 := Lib.hid e10; clear e10 e8
          have hml : (K.map (dOf D)).length = K.length := by simp
          have Hml := Lib.hid hml; clear hml
          obtain ⟨pd, cd, rfl⟩ := ownT_slice Hdo.out
          go_loopw [106] (fun i w11 => ∃ k : Nat, i = .int .i64 k ∧ k ≤ K.length ∧ Below w10.heap.size w10 w11) (fun i _ => K.length - (intOf i).toNat)
          case atStart => exact ⟨0, rfl, by omega, Below.refl _ _⟩
          case round =>
            obtain ⟨k, rfl, hk, hbl⟩ := hrel
            obtain ⟨w11, hw11⟩ : ∃ x, x = wr := ⟨_, rfl⟩
            subst hw11
            have hl11 := Hl10.out.below hbl
            have hK11 := ownsRow9_below HK10.out hbl (Nat.le_refl _)
            have hD11 := ownsRow9_below HD10.out hbl (Nat.le_refl _)
            by_cases hlt : k < K.length
            · have hD12 : w11.ownsRow w5.heap.size 9 1 (.slice pd (K.map (dOf D)).length cd) (K.map (dOf D)).length ((K.map (dOf D)).map encStr) := by rw [Hml.out]; exact hD11
              have hlt2 : k < (K.map (dOf D)).length := by rw [Hml.out]; exact hlt
              obtain ⟨g, rfl⟩ := ownT_ptr hK11 (by omega)
              obtain ⟨gd, rfl⟩ := ownT_ptr hD12 (by omega)
              have x0 := ownT_cell hK11 hlt
              have y0 := ownT_cell hD12 hlt2
              have hgd : (K.map (dOf D))[k] = dOf D K[k] := by simp
              have hde : (ByteArray.mk (dOf D K[k]).toArray) = dataOf D ⟨(K[k]).toArray⟩ := by simp [dOf]
              rw [hgd, hde] at y0
              have hg := hG2 K[k] (List.getElem_mem hlt) w11 hl11
              clear hgd hde hD12 hlt2 hD11 hK11
              generalize dataOf D ⟨(K[k]).toArray⟩ = dv at *
              generalize (ByteArray.mk (K[k]).toArray) = kk at *
              go_wp2_with (first
                | (go_at_call 38; refine hg.mono ?_; rintro e u11 ⟨rfl, hu11⟩; subst hu11))
              exact ⟨⟨k + 1, by go_num, by omega, hbl⟩, by simp [intOf]; omega⟩
            · obtain rfl : k = K.length := by omega
              have Hl11 := Lib.hid hl11; clear hl11
              clear hK11 hD11
              by_cases hsw : sz2 = was
              · subst hsw
                go_wp2_with (first
                  | (go_at_call 13; refine (hRe _ Hl11.out).mono ?_; rintro e u11 ⟨rfl, hu11⟩; subst hu11)
                  | (go_at_call 26; refine (hRd _).mono ?_; rintro e w12 ⟨p12, c12, rfl, hrow12, hb12⟩; have Hl12 := Lib.hid (Hl11.out.below hb12); clear hrow12)
                  | (go_at_call 14; refine (hLe _ Hl12.out).mono ?_; rintro e u12 ⟨rfl, hu12⟩; subst hu12)
                  | (go_at_call 29; refine (awake_any _).mono ?_; rintro e w13 ⟨rfl, hb13⟩))
                go_ret
                exact ⟨rfl, ((He10.out.step hbl).step hb12).step hb13⟩
              · obtain ⟨hq1, hq2⟩ := hcmp hsw
                subst hq2
                rw [hq1] at hRd
                have hne : ((sz2 : Int) == was) = false := by simp; omega
                go_wp2_with (first
                  | (go_at_call 13; refine (hRe _ Hl11.out).mono ?_; rintro e u11 ⟨rfl, hu11⟩; subst hu11)
                  | (go_at_call 26; refine (hRd _).mono ?_; rintro e w12 ⟨p12, c12, rfl, hrow12, hb12⟩; have Hl12 := Lib.hid (Hl11.out.below hb12); clear hrow12)
                  | (go_at_call 14; refine (hLe _ Hl12.out).mono ?_; rintro e u12 ⟨rfl, hu12⟩; subst hu12)
                  | (go_at_call 36; refine (hSn _ Hl12.out).mono ?_; rintro e u12 ⟨rfl, hu12⟩; subst hu12)
                  | (go_at_call 29; refine (awake_any _).mono ?_; rintro e w13 ⟨rfl, hb13⟩))
                go_ret
                exact ⟨rfl, ((He10.out.step hbl).step hb12).step hb13⟩
end Go.Proofs.Ytmflngpgmmgohaa
