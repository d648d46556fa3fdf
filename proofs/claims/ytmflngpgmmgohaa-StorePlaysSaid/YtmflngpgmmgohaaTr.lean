/-
  Walks: StoreSurvives.
-/
import Derived.Test.YtmflngpgmmgohaaTq
import Derived.Test.YtmflngpgmmgohaaTg
import Derived.Test.YtmflngpgmmgohaaLexK
import Derived.Laws.AppendOwnNone
namespace Go.Proofs.Ytmflngpgmmgohaa
open Go.RowKit

theorem Live.drew {w : World} {s nn : Nat} {S : SM} {Dk : DM} (h : Live w s S nn Dk) : Live w.drew s S nn Dk := ⟨⟨h.st.blk, ownsS_at h.st.own rfl, h.st.ne1, h.st.ne2, h.st.ne3⟩, h.dk⟩
theorem Live.blocks {w w' : World} {s nn : Nat} {S : SM} {Dk : DM} (h : Live w s S nn Dk) (h1 : w'.heap[s]? = w.heap[s]?) (h2 : w'.heap[S.mb]? = w.heap[S.mb]?) (h3 : w'.heap[S.db]? = w.heap[S.db]?) : Live w' s S nn Dk :=
  ⟨⟨h1.trans h.st.blk, ownsS_at h.st.own h2, h.st.ne1, h.st.ne2, h.st.ne3⟩, h3.trans h.dk⟩
theorem ownsRow_but {w w' : World} {B n : Nat} {v : Value} {xs : List Value} {S : List Nat} (h : w.ownsRow B 44 2 v n xs) (hb : But S w w') (hS : ∀ x ∈ S, x < B) : w'.ownsRow B 44 2 v n xs := by
  refine ⟨h.1, ?_⟩
  rcases h.2 with h2 | ⟨g, cap, cur, rfl, h4, h5, h6⟩
  · exact .inl h2
  · refine .inr ⟨g, cap, cur, rfl, h4, ?_, h6⟩
    rw [hb.block g (heap_lt h5) (fun hx => by have := hS _ hx; omega)]; exact h5
theorem ext_but {Kp : Nat → Prop} {S : List Nat} {w w' : World} (h : But S w w') (hS : ∀ x ∈ S, ¬ Kp x) : LexK.Ext Kp w w' := ⟨h.size, fun b hb hk => h.block b hb fun hx => hS _ hx hk⟩

theorem at_fin {P : Program} {ops : Array Oper} {a : Act} {R : Prop} (h : Lex.fin P ops a = true ∧ R) : Lex.fin P ops a = true ∧ R := h
theorem at_finK {Kp : Nat → Prop} {P : Program} {ops : Array Oper} {a b : Act} {R : Prop} {lf k : Nat} {w : World} {l : List Oper} (h : Lex.fin P ops a = true ∧ LexK.finL Kp lf ops w b l k ∧ R) : Lex.fin P ops a = true ∧ LexK.finL Kp lf ops w b l k ∧ R := h
theorem at_wpX {Kp : Nat → Prop} {P : Program} {ops : Array Oper} {Q : Exit → Act → World → Prop} {l : List Oper} {a : Act} {w : World} (h : LexK.wpX Kp P ops Q l a w) : LexK.wpX Kp P ops Q l a w := h
theorem at_ext {Kp : Nat → Prop} {w w' : World} {R : Prop} (h : LexK.Ext Kp w w' ∧ R) : LexK.Ext Kp w w' ∧ R := h
theorem at_region {P : Program} {Q : Exit → Act → World → Prop} {id : Nat} {ops : Array Oper} {a : Act} {w : World} (h : (Code.region id ops true).wp P Q a w) : (Code.region id ops true).wp P Q a w := h
theorem wpList_append_recG {ops : Array Oper} {rest : List Oper} {o : Oper} {a : Act} {Q : Exit → Act → World → Prop} (hgd : o.guard = none) (s x : Operand) (t : TypeId)
    (ho : o.op = .call { callee := .builtin .append, args := #[s, x], argTypes := #[t, t] }) (ht : Try.prog.underlying t = some (.slice 44))
    (B : Nat) (w0 : World) (g : Nat) (hg : g = w0.heap.size) (hB : B ≤ w0.heap.size) (k d : ByteArray) (v : Value) (n : Nat) (xs : List Value) (hs : a.eval s = v) (hown : w0.ownsRow B 44 2 v n xs) (hn : n ≤ 1048576)
    (hx : a.eval x = .slice (some ⟨g, 0, none⟩) 1 1)
    (h : ∀ v' w', w'.ownsRow B 44 2 v' (n + 1) (xs ++ [.string k, .string d]) → (∀ w, Below B w w0 → Below B w w') → (w0.alloc (.cells #[.string k, .string d] 44)).grownBy w' v.ownBlock → wpList Try.prog ops Q rest (a.put o.dst v') w') :
    wpList Try.prog ops Q (o :: rest) a (w0.alloc (.cells #[.string k, .string d] 44)) := by
  subst hg
  obtain ⟨i0, hi0, hz0, hz1, hz2⟩ := info_parts rec_info
  refine wpList_append_own _ hgd s x t ho B 44 i0 _ 2 32 ht hi0 hz0 hz1 hz2 rfl (by decide) v n xs hs (hown.alloc _) ⟨w0.heap.size, 0, none⟩ 1 1 [.string k, .string d] hx rfl ?_ ?_ (by unfold maxLen; omega) (by omega) (by simp; omega) ?_
  · intro j u hj
    have hc : ∀ i, (w0.alloc (.cells #[.string k, .string d] 44)).cell? ⟨w0.heap.size, i, none⟩ = (#[Value.string k, .string d] : Array Value)[i]? := fun i => cell_of_row _ _ _ _ _ _ (heap_alloc_new _ _)
    match j, hj with
    | 0, hj => simp at hj; subst hj; exact hc 0
    | 1, hj => simp at hj; subst hj; exact hc 1
    | (j + 2), hj => simp at hj
  · intro u hu; simp at hu; rcases hu with rfl | rfl <;> rfl
  · intro v' w' ho' hg' _
    exact h v' w' ho' (fun w hw => (hw.alloc hB _).grown hg' (by simp; omega) (fun q hq => (hown.lt q hq).1)) hg'
/-- 'append([]T(nil), l...)'. -/
theorem wpList_append_copy {ops : Array Oper} {rest : List Oper} {o : Oper} {a : Act} {Q : Exit → Act → World → Prop} (hgd : o.guard = none) (s x : Operand) (t : TypeId)
    (ho : o.op = .call { callee := .builtin .append, args := #[s, x], argTypes := #[t, t] }) (ht : Try.prog.underlying t = some (.slice 44))
    (B : Nat) (w : World) (v : Value) (n : Nat) (xs : List Value) (hs : a.eval s = .slice none 0 0) (hx : a.eval x = v) (hown : w.ownsRow B 44 2 v n xs) (hn : n ≤ 1048576) (h1 : ∀ u ∈ xs, u.oneCell' = true)
    (h : ∀ v' w', w'.ownsRow w.heap.size 44 2 v' n xs → Below w.heap.size w w' → wpList Try.prog ops Q rest (a.put o.dst v') w') :
    wpList Try.prog ops Q (o :: rest) a w := by
  obtain ⟨i0, hi0, hz0, hz1, hz2⟩ := info_parts rec_info
  rcases hown.2 with ⟨hv, hn0⟩ | ⟨g, cap, cur, hv, hg⟩
  · subst hv hn0
    have hxs : xs = [] := List.eq_nil_of_length_eq_zero (by simpa using hown.1)
    subst hxs
    refine wpList_append_own_none hgd s x t ho w.heap.size 44 i0 2 ht hi0 _ 0 [] hs (World.ownsRow_nil _ _ _ _) hx (h _ _ (World.ownsRow_nil _ _ _ _) (Below.refl _ _))
  · subst hv
    refine wpList_append_own _ hgd s x t ho w.heap.size 44 i0 _ 2 32 ht hi0 hz0 hz1 hz2 rfl (by decide) _ 0 [] hs (World.ownsRow_nil _ _ _ _) ⟨g, 0, none⟩ n cap xs hx hown.1 (hown.cells rfl) h1 (by unfold maxLen; omega) (by omega) (Nat.le_refl _) ?_
    intro v' w' ho' hg' _
    rw [Nat.zero_add, List.nil_append] at ho'
    exact h v' w' ho' ((Below.refl _ _).grown hg' (Nat.le_refl _) (fun k hk => by cases hk))
theorem recCells_one (l : List Rec) : ∀ u ∈ recCells l, u.oneCell' = true := by
  intro u hu
  simp only [recCells, List.mem_flatMap] at hu
  obtain ⟨r, _, hu⟩ := hu
  simp at hu
  rcases hu with rfl | rfl <;> rfl
theorem round_pack {K D1 : ByteArray} {Dk : DM} {l : List Rec} {nn size s mb db : Nat} {D : MD} (hlog : Log Dk l) (hl : l.length ≤ 19) (hnn : nn ≤ 1048576) (hsize : size ≤ 1099511627776) :
    ∃ (K' D' : ByteArray) (size2 : Nat) (D2 : MD) (Dk2 : DM), K'.size ≤ 20 ∧ D'.size ≤ 30 ∧ size2 ≤ size + 58 ∧ Log Dk2 (l ++ [(K', D')]) ∧
      (∀ w, Calls Try.prog 25 #[.agg #[.string K, .string D1]] w fun e w' => e = .returned (.agg #[.string K', .string D']) ∧ Below w.heap.size w w') ∧
      (∀ w, Live w s ⟨db, mb, l.length, size, D⟩ nn Dk → Calls Try.prog 35 #[.pointer (some ⟨s, 0, none⟩), .string K', .string D'] w fun e w' => e = .returned (.int .i64 0) ∧ Live w' s ⟨db, mb, l.length + 1, size2, D2⟩ (nn + 1) Dk2 ∧ But [s, mb, db] w w') := by
  have hz := cutK_size (K, D1)
  have hfz := frameB_small (k := (cutK (K, D1)).1) (d := (cutK (K, D1)).2) (by omega) (by omega)
  obtain ⟨hpc, hlog2⟩ := hlog.put hl hz.1 hz.2
  refine ⟨(cutK (K, D1)).1, (cutK (K, D1)).2, size + (frameB (cutK (K, D1)).1 (cutK (K, D1)).2).size, setD D (cutK (K, D1)).1 (cutK (K, D1)).2, putDk Dk (cutK (K, D1)).1 (cutK (K, D1)).2, hz.1, hz.2, by omega, hlog2, fun w => lawcut_any (K, D1) w, fun w h => ?_⟩
  have hll := hlog.len
  have := put_any s ⟨db, mb, l.length, size, D⟩ nn Dk (cutK (K, D1)).1 (cutK (K, D1)).2 w h hlog.ok (by omega) (by omega) hnn (by dsimp only; omega) hsize
  have hpS : putS ⟨db, mb, l.length, size, D⟩ Dk (cutK (K, D1)).1 (cutK (K, D1)).2 = ⟨db, mb, l.length + 1, size + (frameB (cutK (K, D1)).1 (cutK (K, D1)).2).size, setD D (cutK (K, D1)).1 (cutK (K, D1)).2⟩ := by unfold putS; rw [if_pos hpc]
  rw [hpc, hpS] at this
  exact this
theorem last_pack {K5 D5 : ByteArray} {Dk : DM} {l : List Rec} {nn size s mb db q : Nat} {D : MD} {keep : Int} (hlog : Log Dk l) (hl : l.length ≤ 19) (hnn : nn ≤ 1048576) (hsize : size ≤ 1099511627776) (hq : q < 3) (hkp : keep ≤ 9223372036854775807) :
    ∃ (K' D' : ByteArray) (DA D1 D2 : DM) (c : Int) (n' size' : Nat) (D'' : MD) (L2 : List Rec), (L2.length = l.length + 1 ∧ recCells L2 = recCells l ++ [.string K', .string D'] ∧ ¬ L2 = l ∧ SmallC L2) ∧
      (∀ w, Calls Try.prog 25 #[.agg #[.string K5, .string D5]] w fun e w' => e = .returned (.agg #[.string K', .string D']) ∧ Below w.heap.size w w') ∧
      (∀ w, w.heap[db]? = some Dk.obj → Calls Try.prog 20 #[.pointer (some ⟨db, 0, none⟩), .int .i64 q, .int .i64 keep] w fun e w' => e = .returned (.tuple #[]) ∧ Upd db DA.obj w w') ∧
      (∀ w, Live w s ⟨db, mb, l.length, size, D⟩ nn DA → Calls Try.prog 35 #[.pointer (some ⟨s, 0, none⟩), .string K', .string D'] w fun e w' => e = .returned (.int .i64 c) ∧ Live w' s ⟨db, mb, n', size', D''⟩ (nn + 1) D1 ∧ But [s, mb, db] w w') ∧
      (∀ w, w.heap[db]? = some D1.obj → Calls Try.prog 21 #[.pointer (some ⟨db, 0, none⟩)] w fun e w' => e = .returned (.tuple #[]) ∧ Upd db D2.obj w w') ∧
      ((c = 28 ∧ n' = l.length ∧ After D2 l) ∨ (c = 28 ∧ n' = l.length ∧ After D2 L2) ∨ (c = 0 ∧ After D2 L2)) := by
  have hz := cutK_size (K5, D5)
  obtain ⟨hokA, hsv⟩ := survive hlog hl hz.1 hz.2 hq hkp
  have hll := hlog.len
  have hP := fun w h => put_any s ⟨db, mb, l.length, size, D⟩ nn (Dk.armD q keep) (cutK (K5, D5)).1 (cutK (K5, D5)).2 w h hokA (by omega) (by omega) hnn (by dsimp only; omega) hsize
  have hpn : putC (Dk.armD q keep) (cutK (K5, D5)).1 (cutK (K5, D5)).2 = 28 → (putS ⟨db, mb, l.length, size, D⟩ (Dk.armD q keep) (cutK (K5, D5)).1 (cutK (K5, D5)).2).n = l.length := fun h => by unfold putS; rw [if_neg (by rw [h]; decide)]
  have hpd : (putS ⟨db, mb, l.length, size, D⟩ (Dk.armD q keep) (cutK (K5, D5)).1 (cutK (K5, D5)).2).db = db ∧ (putS ⟨db, mb, l.length, size, D⟩ (Dk.armD q keep) (cutK (K5, D5)).1 (cutK (K5, D5)).2).mb = mb := by unfold putS; split <;> exact ⟨rfl, rfl⟩
  generalize putS ⟨db, mb, l.length, size, D⟩ (Dk.armD q keep) (cutK (K5, D5)).1 (cutK (K5, D5)).2 = S' at *
  obtain ⟨db', mb', n', size', D''⟩ := S'
  dsimp only at hpn hpd
  obtain ⟨rfl, rfl⟩ := hpd
  refine ⟨(cutK (K5, D5)).1, (cutK (K5, D5)).2, Dk.armD q keep, _, _, _, n', size', D'', l ++ [((cutK (K5, D5)).1, (cutK (K5, D5)).2)], ⟨by simp, recCells_snoc _ _, by simp, hlog.small.snoc hz.1 hz.2⟩, fun w => lawcut_any (K5, D5) w, fun w h => arm_any db' Dk q keep w h, hP, fun w h => restart_any db' _ w h, ?_⟩
  rcases hsv with ⟨hc, h⟩ | ⟨hc, h⟩ | ⟨hc, h⟩
  · exact .inl ⟨hc, hpn hc, h⟩
  · exact .inr (.inl ⟨hc, hpn hc, h⟩)
  · exact .inr (.inr ⟨hc, h⟩)
theorem hlog_len {Dk : DM} {l : List Rec} (h : Log Dk l) : l.length ≤ 20 := h.len
theorem ext_upd0 {n b : Nat} {o : Obj} {w w' : World} (h : Upd b o w w') (hn : n < b) : LexK.Ext (fun x => x = n) w w' := ⟨by rw [h.size]; exact Nat.le_refl _, fun i _ hi => h.other i (by subst hi; omega)⟩
theorem ext_grown {n : Nat} {row : Option Nat} {w w' : World} (h : w.grownBy w' row) (hn : row ≠ some n) : LexK.Ext (fun x => x = n) w w' := ⟨h.size, fun i hi hk => h.block i hi (by subst hk; exact fun e => hn e.symm)⟩
theorem ownB {w : World} {B n m : Nat} {v : Value} {xs : List Value} (h : w.ownsRow B 44 2 v n xs) (hm : m < B) : v.ownBlock ≠ some m := fun e => by have := (h.lt _ e).1; omega
theorem ext_upd {n b : Nat} {o : Obj} {w w' : World} (h : Upd b o w w') (hn : n < b) : LexK.Ext (fun x => x = n) w w'.drew := ⟨by show w.heap.size ≤ w'.heap.size; rw [h.size]; exact Nat.le_refl _, fun i _ hi => h.other i (by subst hi; omega)⟩
/-- What the loop of StoreSurvives has. -/
structure SI (wb : World) (Bs db s mb : Nat) (k : Nat) (v : Value) (l : List Rec) (wr : World) : Prop where
  le : l.length ≤ 5
  lk : l.length ≤ k
  live : ∃ (nn size : Nat) (D : MD) (Dk : DM), nn ≤ l.length ∧ size ≤ 58 * l.length ∧ Log Dk l ∧ Live wr s ⟨db, mb, l.length, size, D⟩ nn Dk
  own : wr.ownsRow Bs 44 2 v l.length (recCells l)
  below : Below wb.heap.size wb wr
  bs : Bs ≤ wr.heap.size

theorem keptCells {B n : Nat} {wr w3 w4 : World} {v : Value} {xs : List Value} {K D : ByteArray} (hb3 : Below (wr.alloc (.cells #[.string K, .string D] 44)).heap.size (wr.alloc (.cells #[.string K, .string D] 44)) w3) (ho : wr.ownsRow B 44 2 v n xs)
    (hblk : ∀ i, i < w3.heap.size → some i ≠ v.ownBlock → w4.heap[i]? = w3.heap[i]?) : w4.cell? ⟨wr.heap.size, 0, none⟩ = some (.string K) ∧ w4.cell? ⟨wr.heap.size, 1, none⟩ = some (.string D) := by
  have h2 : wr.heap.size < (wr.alloc (.cells #[.string K, .string D] 44)).heap.size := by simp
  have hg : w4.heap[wr.heap.size]? = some (.cells #[.string K, .string D] 44) := by
    rw [hblk _ (Nat.lt_of_lt_of_le h2 hb3.size) (rne ho), hb3.block _ h2]; exact heap_alloc_new _ _
  exact ⟨cell_of_row _ _ _ _ _ _ hg, cell_of_row _ _ _ _ _ _ hg⟩
theorem keptLive {B s nn : Nat} {wr w3 w4 : World} {S : SM} {Dk : DM} {o : Obj} (h : Live wr s S nn Dk) (hb3 : Below (wr.alloc o).heap.size (wr.alloc o) w3) (hB : Below B w3 w4) (h1 : s < B) (h2 : S.mb < B) (h3 : S.db < B) : Live w4 s S nn Dk :=
  ((h.below ((Below.refl _ _).alloc (Nat.le_refl _) o)).below hb3).blocks (hB.block _ h1) (hB.block _ h2) (hB.block _ h3)

set_option maxRecDepth 100000 in
set_option maxHeartbeats 16000000 in
theorem survives_walk (p : Option Addr) (len cap : Nat) (K5 D5 : ByteArray) (n keep : Int) (w : World) (hrow : RecsRow w p len) (hlen : len ≤ 9223372036854775807) (hkp : keep ≤ 9223372036854775807) :
    Calls Try.prog 8 #[.slice p len cap, .agg #[.string K5, .string D5], .int .i64 n, .int .i64 keep] w fun e w' => e = .returned (.bool true) ∧ Below w.heap.size w w' := by
  have Hrow := Lib.hid hrow; clear hrow
  have hb5 := heap_alloc_new w (.cells #[.string K5, .string D5] 44)
  have hB5 : Below w.heap.size w (w.alloc (.cells #[.string K5, .string D5] 44)) := (Below.refl _ _).alloc (Nat.le_refl _) _
  have hs5 : (w.alloc (.cells #[.string K5, .string D5] 44)).heap.size = w.heap.size + 1 := by simp
  have hN : Calls Try.prog 11 #[.int .i64 5000] (w.alloc (.cells #[.string K5, .string D5] 44)) fun e w' => e = .returned (.pointer (some ⟨(w.alloc (.cells #[.string K5, .string D5] 44)).heap.size, 0, none⟩)) ∧ (w.alloc (.cells #[.string K5, .string D5] 44)).alloc (fresh 5000).obj = w' := new_any 5000 _
  have hO := sopen_fresh 5000 (by omega) (by omega) (w.alloc (.cells #[.string K5, .string D5] 44))
  have hob := Log.fresh
  generalize fresh 5000 = F0 at *
  have Hob := Lib.hid hob; clear hob
  have Hb5 := Lib.hid hb5; clear hb5
  have HB5 := Lib.hid hB5; clear hB5
  have Hs5 := Lib.hid hs5; clear hs5
  go_enter Try.func8, Try.ntmps8
  go_upto_region 1 with fail
  generalize w.alloc (.cells #[.string K5, .string D5] 44) = wb at *
  go_wp2_with (first
    | ((with_reducible refine at_region ?_); with_reducible refine Lex.wp_region_lex (by kernel_rfl) (by decide +kernel) ?_)
    | ((with_reducible refine at_fin ?_); with_reducible refine Lex.fin_on (by kernel_rfl) ?_)
    | (go_at_call 11; refine hN.mono ?_; rintro e w1 ⟨rfl, rfl⟩)
    | (go_at_call 34; refine hO.mono ?_; rintro e w2 ⟨s, mb, rfl, hl2, hb2, hs2, hm2⟩; have HL2 := Lib.hid hl2; clear hl2))
  have hlt2 := ownsS_lt HL2.out.st.own
  have hlt2s := heap_lt HL2.out.st.blk
  dsimp only at hlt2
  go_loopw [12, 35] (fun v i wr => ∃ (k : Nat) (l : List Rec), i = .int .i64 k ∧ k ≤ len ∧ SI wb w2.heap.size wb.heap.size s mb k v l wr) (fun _ i _ => len - (intOf i).toNat)
  case atStart => exact ⟨0, [], rfl, by omega, by simp, by simp, ⟨0, 0, _, _, by simp, by simp, Hob.out, HL2.out⟩, World.ownsRow_nil _ _ _ _, hb2, Nat.le_refl _⟩
  case round =>
    obtain ⟨k, l, rfl, hk, hsi⟩ := hrel
    obtain ⟨nn, size, D, Dk, hnn, hsize, hlog, hlive⟩ := hsi.live
    have hle := hsi.le
    have hlk := hsi.lk
    have Hsi := Lib.hid hsi; clear hsi
    have Hlog := Lib.hid hlog; clear hlog
    have Hlive := Lib.hid hlive; clear hlive
    by_cases hlt : k < len
    · obtain ⟨ab, off, K, D1, rfl, hab, hc0, hc1⟩ := Hrow.out k hlt
      have x0 := (Hsi.out.below.cell (show ab < wb.heap.size by have := Hs5.out; omega)).trans ((HB5.out.cell hab).trans hc0)
      have x1 := (Hsi.out.below.cell (show ab < wb.heap.size by have := Hs5.out; omega)).trans ((HB5.out.cell hab).trans hc1)
      clear hc0 hc1
      by_cases h5 : k < 5
      · obtain ⟨K', D', size2, D2, Dk2, hz1, hz2, hfz, hlog2, hC, hP⟩ := round_pack (K := K) (D1 := D1) (nn := nn) (size := size) (s := s) (mb := mb) (db := wb.heap.size) (D := D) Hlog.out (by omega) (by omega) (by omega)
        have hf0 := field44_0 K' D'
        have hf1 := field44_1 K' D'
        have Hlog2 := Lib.hid hlog2; clear hlog2
        have Hfz := Lib.hid hfz; clear hfz
        go_wp2_with (first
          | ((with_reducible refine at_finK ?_); refine LexK.finE_on (by kernel_rfl) (by repeat first | exact LexK.finL_nil | refine LexK.finL_none rfl ?_ | refine LexK.finL_skip (by decide +kernel) ?_ | refine LexK.finL_take rfl rfl z0.out ?_) ?_)
          | ((with_reducible refine at_region ?_); with_reducible refine Lex.wp_region_lex (by kernel_rfl) (by decide +kernel) ?_)
          | ((with_reducible refine at_fin ?_); with_reducible refine Lex.fin_on (by kernel_rfl) ?_)
          | ((with_reducible refine at_region ?_); refine LexK.wp_region_lexE (fun b => b = wr.heap.size) (by kernel_rfl) (by decide +kernel) ?_; have y0 : w4.drew.cell? ⟨wr.heap.size, 0, none⟩ = some (.string K) := hrb4.out.1; have y1 : w4.drew.cell? ⟨wr.heap.size, 1, none⟩ = some (.string D1) := hrb4.out.2; have z0 := Lib.hid y0)
          | ((with_reducible refine at_wpX ?_); with_reducible refine LexK.wpX_plain (by decide +kernel) ?_)
          | ((with_reducible refine at_wpX ?_); with_reducible refine LexK.wpX_call ?_)
          | ((with_reducible refine at_wpX ?_); with_reducible refine LexK.wpX_nil ?_)
          | ((with_reducible refine at_ext ?_); with_reducible refine LexK.ext_on (LexK.Ext.of_below hb5 (Nat.le_refl _)) ?_)
          | ((with_reducible refine at_ext ?_); with_reducible refine LexK.ext_on (LexK.Ext.of_below hb6 (Nat.le_refl _)) ?_)
          | ((with_reducible refine at_ext ?_); with_reducible refine LexK.ext_on (ext_but hb7 hoff.out) ?_)
          | (go_at_call 25; first
              | (refine (hC _).mono ?_; rintro e w6 ⟨rfl, hb6⟩; have HL6 := Lib.hid (HL5.out.below hb6))
              | (refine (hC _).mono ?_; rintro e w5 ⟨rfl, hb5⟩; have HL5 := Lib.hid (HL4.out.drew.below hb5); have y2 := (hb5.cell (p := ⟨wr.heap.size, 0, none⟩) hrl4.out).trans hrb4.out.1; have y3 := (hb5.cell (p := ⟨wr.heap.size, 1, none⟩) hrl4.out).trans hrb4.out.2)
              | (refine (hC _).mono ?_; rintro e w3 ⟨rfl, hb3⟩))
          | (at_builtin; refine wpList_append_recB rfl (.tmp 42) (.tmp 45) 46 rfl (by kernel_rfl) w2.heap.size _ _ rfl (Nat.le_trans Hsi.out.bs (Nat.le_trans (by simp) hb3.size)) K' D' _ _ _ rfl (ownsRow_below (Hsi.out.own.alloc _) hb3 (Nat.le_refl _)) (by omega) rfl ?_; intro v' w4 hown' hbel' hblk'; have HB4 := Lib.hid (hbel' _ (Below.refl _ _)); have Hown4 := Lib.hid hown'; have hrl4 := Lib.hid (show wr.heap.size < w4.drew.heap.size from Nat.lt_of_lt_of_le (Nat.lt_of_lt_of_le (by simp) hb3.size) HB4.out.size); have hrb4 := Lib.hid (keptCells hb3 Hsi.out.own hblk'); have HL4 := Lib.hid (keptLive Hlive.out hb3 HB4.out (by first | omega | (dsimp only; omega)) (by first | omega | (dsimp only; omega)) (by first | omega | (dsimp only; omega))); have hoff := Lib.hid (show ∀ x ∈ [s, mb, wb.heap.size], ¬ (fun b => b = wr.heap.size) x by have := Hsi.out.bs; simp; omega); clear hown' hbel' hblk')
          | (go_at_call 35; refine (hP _ HL6.out).mono ?_; rintro e w7 ⟨rfl, hl7, hb7⟩; have HL7 := Lib.hid hl7; clear hl7))
        have hlen1 : (l ++ [(K', D')]).length = l.length + 1 := by simp
        have hsz := Nat.le_trans Hsi.out.bs (Nat.le_trans (show wr.heap.size ≤ (wr.alloc (.cells #[.string K, .string D1] 44)).heap.size by simp) (Nat.le_trans hb3.size (Nat.le_trans HB4.out.size (Nat.le_trans hb5.size (Nat.le_trans hb6.size hb7.size)))))
        have hbs : wb.heap.size ≤ w2.heap.size := hb2.size
        refine ⟨⟨k + 1, l ++ [(K', D')], by go_num, by omega, by omega, by omega, ⟨nn + 1, _, _, _, by omega, ?_, Hlog2.out, by rw [hlen1]; exact HL7.out⟩, ?_, ?_, hsz⟩, by simp [intOf]; omega⟩
        · have := Hfz.out; omega
        · rw [recCells_snoc, hlen1]
          exact ownsRow_but (ownsRow_below (ownsRow_below (ownsRow_heap (w' := w4.drew) Hown4.out rfl) hb5 (Nat.le_refl _)) hb6 (Nat.le_refl _)) hb7 (by simp; omega)
        · have h1 := ((Hsi.out.below.alloc Hsi.out.below.size (.cells #[.string K, .string D1] 44)).step hb3).trans (HB4.out.mono hbs)
          have h2 := ((h1.drew).step hb5).step hb6
          exact h2.trans (hb7.below h2.size (by simp; omega))
      · go_wp2_with (first
          | ((with_reducible refine at_region ?_); with_reducible refine Lex.wp_region_lex (by kernel_rfl) (by decide +kernel) ?_)
          | ((with_reducible refine at_fin ?_); with_reducible refine Lex.fin_on (by kernel_rfl) ?_))
        have hbx : Below wr.heap.size wr (wr.alloc (.cells #[.string K, .string D1] 44)) := (Below.refl _ _).alloc (Nat.le_refl _) _
        exact ⟨⟨k + 1, l, by go_num, by omega, hle, by omega, ⟨nn, size, D, Dk, hnn, hsize, Hlog.out, Hlive.out.below hbx⟩, Hsi.out.own.alloc _, Hsi.out.below.alloc Hsi.out.below.size _, Nat.le_trans Hsi.out.bs hbx.size⟩, by simp [intOf]; omega⟩
    · obtain rfl : k = len := by omega
      obtain ⟨q, hq, hqe⟩ := at_mod n 3 (by omega) (by omega)
      have hqe' : wrap64 ((IntKind.u64.wrap n).tmod 3) = (q : Int) := hqe
      clear hqe
      obtain ⟨K', D', DA, D1, D2, c, n', size', D'', L2, ⟨hlenL, hrecL, hneL, hsm⟩, hC, hA, hP, hR, hsv⟩ := last_pack (K5 := K5) (D5 := D5) (nn := nn) (size := size) (s := s) (mb := mb) (db := wb.heap.size) (D := D) Hlog.out (by omega) (by omega) (by omega) hq hkp
      have hf0 := field44_0 K' D'
      have hf1 := field44_1 K' D'
      have hg5 : wr.heap[w.heap.size]? = some (.cells #[.string K5, .string D5] 44) := (Hsi.out.below.block _ (by have := Hs5.out; omega)).trans Hb5.out
      have hO := Hsi.out.own
      obtain ⟨pv, cv, rfl⟩ := own_slice hO
      have HO := Lib.hid hO; clear hO
      have Hg5 := Lib.hid hg5; clear hg5
      have hlt5 : w.heap.size < wb.heap.size := by have := Hs5.out; omega
      have hbs : wb.heap.size ≤ w2.heap.size := hb2.size
      have Hlt5 := Lib.hid hlt5; clear hlt5
      have Hsm := Lib.hid hsm; clear hsm
      have hll := hlog_len Hlog.out
      have Hll := Lib.hid hll; clear hll
      have HlenL := Lib.hid hlenL; clear hlenL
      have HrecL := Lib.hid hrecL; clear hrecL
      have HneL := Lib.hid hneL; clear hneL
      have hC2 := fun w => awake_any w
      rcases hsv with ⟨hc, hn', hAf⟩ | ⟨hc, hn', hAf⟩ | ⟨hc, hAf⟩
      case inl =>
        subst hc
        subst hn'
        have hAs := hAf.size
        have hFr : readV (framesB l) = (l, ⟨#[]⟩) := by
          have := readV_frames (P := ⟨#[]⟩) (SmallC.small Hlog.out.small) recV_empty; rwa [append_nil] at this
        have hFz : (framesB l).size ≤ 1048576 := by have := framesB_size Hlog.out.small; have := Hll.out; have := HlenL.out; omega
        have hRd := fun w => reads_val (framesB l) hFz w
        rw [hFr] at hRd
        dsimp only at hRd
        have HAf := Lib.hid hAf; clear hAf hFr
        have hll5 : l.length ≤ 1048576 := by have := Hll.out; have := HlenL.out; omega
        have hl5 : l.length ≤ 1048576 := by have := Hll.out; omega
        have hS1 : ∀ (B1 B2 : Nat) (v1 v2 : Value) (w : World), w.ownsRow B1 44 2 v1 l.length (recCells l) → w.ownsRow B2 44 2 v2 l.length (recCells l) → Calls Try.prog 33 #[v1, v2] w fun e w' => e = .returned (.bool true) ∧ Below w.heap.size w w' := by
          intro B1 B2 v1 v2 w h1 h2
          have := sameRecs_any B1 B2 v1 v2 l l w h1 h2 hll5 hl5
          rw [show decide (l = l) = true by simp] at this
          exact this
        have hxa : ∀ (w' : World), LexK.Ext (fun b => b = w.heap.size) wr w' → w'.cell? ⟨w.heap.size, 0, none⟩ = some (.string K5) ∧ w'.cell? ⟨w.heap.size, 1, none⟩ = some (.string D5) := fun w' hx => by
          have := (hx.2 _ (heap_lt Hg5.out) rfl).trans Hg5.out
          exact ⟨cell_of_row _ _ _ _ _ _ this, cell_of_row _ _ _ _ _ _ this⟩
        have Hxa := Lib.hid hxa; clear hxa
        have hnk : ∀ x ∈ [s, mb, wb.heap.size], ¬ (fun b => b = w.heap.size) x := by have := Hlt5.out; simp; omega
        have Hnk := Lib.hid hnk; clear hnk
        have Hnd := Lib.hid (show ∀ x ∈ [wb.heap.size], ¬ (fun b => b = w.heap.size) x by have := Hlt5.out; simp; omega)
        have Hbl := Lib.hid (show ∀ x ∈ [s, mb, wb.heap.size], x < w2.heap.size by simp; omega)
        have Hdb := Lib.hid (show ∀ x ∈ [wb.heap.size], x < w2.heap.size by simp; omega)
        go_wp2_with (first
          | ((with_reducible refine at_finK ?_); refine LexK.finE_on (by kernel_rfl) (by repeat first | exact LexK.finL_nil | refine LexK.finL_none rfl ?_ | refine LexK.finL_skip (by decide +kernel) ?_ | refine LexK.finL_take rfl rfl z3.out ?_ | refine LexK.finL_take rfl rfl z1.out ?_) ?_)
          | ((with_reducible refine at_region ?_); with_reducible refine Lex.wp_region_lex (by kernel_rfl) (by decide +kernel) ?_)
          | ((with_reducible refine at_fin ?_); with_reducible refine Lex.fin_on (by kernel_rfl) ?_)
          | ((with_reducible refine at_region ?_); refine LexK.wp_region_lexE (fun b => b = w.heap.size) (by kernel_rfl) (by decide +kernel) ?_; first
              | (have hz7 := Hxa.out u7.drew hx7.out; obtain ⟨a3, b3⟩ := hz7; have z3 := Lib.hid a3)
              | (have hz1 := Hxa.out u1.drew hx1.out; obtain ⟨a1, b1⟩ := hz1; have z1 := Lib.hid a1))
          | ((with_reducible refine at_wpX ?_); with_reducible refine LexK.wpX_plain (by decide +kernel) ?_)
          | ((with_reducible refine at_wpX ?_); with_reducible refine LexK.wpX_call ?_)
          | ((with_reducible refine at_wpX ?_); with_reducible refine LexK.wpX_nil ?_)
          | ((with_reducible refine at_ext ?_); with_reducible refine LexK.ext_on (LexK.Ext.of_below hb2' (Nat.le_refl _)) ?_)
          | ((with_reducible refine at_ext ?_); with_reducible refine LexK.ext_on (LexK.Ext.of_below hb3' (Nat.le_refl _)) ?_)
          | ((with_reducible refine at_ext ?_); with_reducible refine LexK.ext_on (ext_but hb4' Hnk.out) ?_)
          | ((with_reducible refine at_ext ?_); with_reducible refine LexK.ext_on (LexK.Ext.of_below hb8' (Nat.le_refl _)) ?_)
          | ((with_reducible refine at_ext ?_); with_reducible refine LexK.ext_on (LexK.Ext.of_below hb9' (Nat.le_refl _)) ?_)
          | ((with_reducible refine at_ext ?_); with_reducible refine LexK.ext_on (LexK.Ext.alloc _ _) ?_)
          | ((with_reducible refine at_ext ?_); with_reducible refine LexK.ext_on (LexK.Ext.of_below hbA' (Nat.le_refl _)) ?_)
          | (go_at_call 20; refine (hA _ Hlive.out.dk).mono ?_; rintro e u1 ⟨rfl, hU1⟩; have HL1 := Lib.hid (Hlive.out.upd hU1).drew; have hx1 := Lib.hid (ext_upd hU1 Hlt5.out); have HO1 := Lib.hid (ownsRow_but HO.out (But.of_upd hU1 (List.mem_singleton.2 rfl)) Hdb.out))
          | (go_at_call 25; first
              | (have q9 := HO8.out; refine (hC _).mono ?_; rintro e u9 ⟨rfl, hb9'⟩; have HO9 := Lib.hid (ownsRow_below HO8.out hb9' (Nat.le_refl _)); have hz9 := Lib.hid (Nat.le_trans hb8'.size hb9'.size))
              | (refine (hC _).mono ?_; rintro e u3 ⟨rfl, hb3'⟩; have HL3 := Lib.hid (HL2'.out.below hb3'); have HO3 := Lib.hid (ownsRow_below HO2.out hb3' (Nat.le_refl _)); have hx3 := Lib.hid (hx2.out.trans (LexK.Ext.of_below hb3' (Nat.le_refl _))))
              | (refine (hC _).mono ?_; rintro e u2 ⟨rfl, hb2'⟩; have HL2' := Lib.hid (HL1.out.below hb2'); have HO2 := Lib.hid (ownsRow_below (ownsRow_heap (w' := u1.drew) HO1.out rfl) hb2' (Nat.le_refl _)); have hx2 := Lib.hid (hx1.out.trans (LexK.Ext.of_below hb2' (Nat.le_refl _))); obtain ⟨a2, b2⟩ := Hxa.out _ hx2.out))
          | (go_at_call 35; refine (hP _ HL3.out).mono ?_; rintro e u4 ⟨rfl, hl4, hb4'⟩; have HL4 := Lib.hid hl4; clear hl4; have HO4 := Lib.hid (ownsRow_but HO3.out hb4' Hbl.out); have hx4 := Lib.hid (hx3.out.trans (ext_but hb4' Hnk.out)))
          | (go_at_call 36; first
              | (have q12 := hbC'; refine (slen_any t _ _ _ HLt2.out.st).mono ?_; rintro e ut ⟨rfl, rfl⟩)
              | (have q12 := hbB'; refine (slen_any t _ _ _ HLq.out.st).mono ?_; rintro e ut ⟨rfl, rfl⟩)
              | (refine (slen_any s _ _ _ HL4.out.st).mono ?_; rintro e us ⟨rfl, rfl⟩))
          | (go_at_call 21; refine (hR _ HL4.out.dk).mono ?_; rintro e u5 ⟨rfl, hU5⟩; have HL5 := Lib.hid (HL4.out.upd hU5); have HO5 := Lib.hid (ownsRow_but HO4.out (But.of_upd hU5 (List.mem_singleton.2 rfl)) Hdb.out); have hx5 := Lib.hid (hx4.out.trans (ext_upd0 hU5 Hlt5.out)))
          | (go_at_call 34; refine (sopen_any wb.heap.size D2 _ HAf.out.ok HL5.out.dk (by omega)).mono ?_; rintro e u6 ⟨hb6', hd6, h6⟩; rw [HAf.out.recs] at h6; obtain ⟨_, t, mbt, rfl, hl6, ht1, ht2⟩ := h6.resolve_left (fun h => h.1 HAf.out.code); have HL6 := Lib.hid hl6; have Hd6 := Lib.hid hd6; clear hl6 h6 hd6; have HO6 := Lib.hid (ownsRow_but HO5.out hb6' Hdb.out); have hx6 := Lib.hid (hx5.out.trans (ext_but hb6' Hnd.out)))
          | (go_at_call 13; have hrd := read_any wb.heap.size (sopenDk D2) _ Hd6.out; rw [HAf.out.dataO] at hrd; refine hrd.mono ?_; rintro e u6' ⟨rfl, rfl⟩; clear hrd)
          | (go_at_call 26; refine (hRd _).mono ?_; rintro e u7 ⟨p7, c7, rfl, ho7, hb7'⟩; have HX7 := Lib.hid ho7; clear ho7; have HO7 := Lib.hid (ownsRow_below HO6.out hb7' (Nat.le_refl _)); have hx7 := Lib.hid (hx6.out.trans (LexK.Ext.of_below hb7' (Nat.le_refl _))); have HL7 := Lib.hid (HL6.out.below hb7'))
          | (at_builtin; first
              | (refine wpList_append_recG rfl (.tmp 105) (.tmp 108) 46 rfl (by kernel_rfl) u7.drew.heap.size _ _ rfl hz9.out K' D' _ _ _ rfl HO9.out hl5 rfl ?_; intro v10 u10 ho10 hbelA hgA; have hq10 : u10.ownsRow u7.drew.heap.size 44 2 v10 L2.length (recCells L2) := (by rw [HlenL.out, HrecL.out]; exact ho10); have HOA := Lib.hid hq10; clear hq10 ho10; have HbA := Lib.hid (hbelA _ (hb8'.trans (hb9'.mono hb8'.size))); have HOa := Lib.hid (ownsRow_below (ownsRow_heap (w' := u7.drew) HO7.out rfl) HbA.out (Nat.le_refl _)); have HXa := Lib.hid (ownsRow_below (ownsRow_heap (w' := u7.drew) HX7.out rfl) HbA.out (Nat.le_refl _)); have HLt := Lib.hid (HL7.out.drew.below HbA.out); clear hbelA)
              | (refine wpList_append_copy rfl (.const (.slice none 0 0)) (.tmp 104) 46 rfl (by kernel_rfl) w2.heap.size u7.drew _ _ _ rfl rfl (ownsRow_heap (w' := u7.drew) HO7.out rfl) hl5 (recCells_one _) ?_; intro v8 u8 ho8 hb8'; have HO8 := Lib.hid ho8; clear ho8; obtain ⟨a8, b8⟩ := Hxa.out u8 ((show LexK.Ext (fun b => b = w.heap.size) wr u7.drew from hx7.out).trans (LexK.Ext.of_below hb8' (Nat.le_refl _)))))
          | ((with_reducible refine at_ext ?_); with_reducible refine LexK.ext_on (ext_grown hgA (ownB HO9.out (Nat.lt_of_lt_of_le (heap_lt Hg5.out) (LexK.Ext.size hx7.out)))) ?_)
          | (go_at_call 33; first
              | (have q11 := hbB'; refine (hS2 _ _ _ _ _ (ownsRow_below HXa.out hbB' (Nat.le_refl _)) (ownsRow_below HOA.out hbB' (Nat.le_refl _))).mono ?_; rintro e uC ⟨rfl, hbC'⟩; have HLt2 := Lib.hid (HLt.out.below hbB' |>.below hbC'))
              | (refine (hS1 _ _ _ _ _ HXa.out HOa.out).mono ?_; rintro e uB ⟨rfl, hbB'⟩; have HLq := Lib.hid (HLt.out.below hbB')))
          | (go_at_call 29; refine (hC2 _).mono ?_; rintro e uD ⟨rfl, hbD'⟩))
        go_ret
        have e0 := HB5.out.step Hsi.out.below
        have le5 : w.heap.size ≤ wb.heap.size := Nat.le_of_lt Hlt5.out
        have e1 := ((below_upd e0 hU1 le5).drew.step hb2').step hb3'
        have e2 := e1.trans (hb4'.below e1.size (by simp; omega))
        have e3 := below_upd e2 hU5 le5
        have e4 := e3.trans (hb6'.below e3.size (by simp; omega))
        exact ⟨rfl, ((((e4.step hb7').drew.step HbA.out).step hbB').step hbD')⟩
      case inr.inl =>
        subst hc
        subst hn'
        have hAs := hAf.size
        have hFr : readV (framesB L2) = (L2, ⟨#[]⟩) := by
          have := readV_frames (P := ⟨#[]⟩) (SmallC.small Hsm.out) recV_empty; rwa [append_nil] at this
        have hFz : (framesB L2).size ≤ 1048576 := by have := framesB_size Hsm.out; have := Hll.out; have := HlenL.out; omega
        have hRd := fun w => reads_val (framesB L2) hFz w
        rw [hFr] at hRd
        dsimp only at hRd
        have HAf := Lib.hid hAf; clear hAf hFr
        have hll5 : L2.length ≤ 1048576 := by have := Hll.out; have := HlenL.out; omega
        have hl5 : l.length ≤ 1048576 := by have := Hll.out; omega
        have hS1 : ∀ (B1 B2 : Nat) (v1 v2 : Value) (w : World), w.ownsRow B1 44 2 v1 L2.length (recCells L2) → w.ownsRow B2 44 2 v2 l.length (recCells l) → Calls Try.prog 33 #[v1, v2] w fun e w' => e = .returned (.bool false) ∧ Below w.heap.size w w' := by
          intro B1 B2 v1 v2 w h1 h2
          have := sameRecs_any B1 B2 v1 v2 L2 l w h1 h2 hll5 hl5
          rw [show decide (L2 = l) = false by simp [HneL.out]] at this
          exact this
        have hS2 : ∀ (B1 B2 : Nat) (v1 v2 : Value) (w : World), w.ownsRow B1 44 2 v1 L2.length (recCells L2) → w.ownsRow B2 44 2 v2 L2.length (recCells L2) → Calls Try.prog 33 #[v1, v2] w fun e w' => e = .returned (.bool true) ∧ Below w.heap.size w w' := by
          intro B1 B2 v1 v2 w h1 h2
          have := sameRecs_any B1 B2 v1 v2 L2 L2 w h1 h2 hll5 hll5
          rw [show decide (L2 = L2) = true by simp] at this
          exact this
        have hxa : ∀ (w' : World), LexK.Ext (fun b => b = w.heap.size) wr w' → w'.cell? ⟨w.heap.size, 0, none⟩ = some (.string K5) ∧ w'.cell? ⟨w.heap.size, 1, none⟩ = some (.string D5) := fun w' hx => by
          have := (hx.2 _ (heap_lt Hg5.out) rfl).trans Hg5.out
          exact ⟨cell_of_row _ _ _ _ _ _ this, cell_of_row _ _ _ _ _ _ this⟩
        have Hxa := Lib.hid hxa; clear hxa
        have hnk : ∀ x ∈ [s, mb, wb.heap.size], ¬ (fun b => b = w.heap.size) x := by have := Hlt5.out; simp; omega
        have Hnk := Lib.hid hnk; clear hnk
        have Hnd := Lib.hid (show ∀ x ∈ [wb.heap.size], ¬ (fun b => b = w.heap.size) x by have := Hlt5.out; simp; omega)
        have Hbl := Lib.hid (show ∀ x ∈ [s, mb, wb.heap.size], x < w2.heap.size by simp; omega)
        have Hdb := Lib.hid (show ∀ x ∈ [wb.heap.size], x < w2.heap.size by simp; omega)
        go_wp2_with (first
          | ((with_reducible refine at_finK ?_); refine LexK.finE_on (by kernel_rfl) (by repeat first | exact LexK.finL_nil | refine LexK.finL_none rfl ?_ | refine LexK.finL_skip (by decide +kernel) ?_ | refine LexK.finL_take rfl rfl z3.out ?_ | refine LexK.finL_take rfl rfl z1.out ?_) ?_)
          | ((with_reducible refine at_region ?_); with_reducible refine Lex.wp_region_lex (by kernel_rfl) (by decide +kernel) ?_)
          | ((with_reducible refine at_fin ?_); with_reducible refine Lex.fin_on (by kernel_rfl) ?_)
          | ((with_reducible refine at_region ?_); refine LexK.wp_region_lexE (fun b => b = w.heap.size) (by kernel_rfl) (by decide +kernel) ?_; first
              | (have hz7 := Hxa.out u7.drew hx7.out; obtain ⟨a3, b3⟩ := hz7; have z3 := Lib.hid a3)
              | (have hz1 := Hxa.out u1.drew hx1.out; obtain ⟨a1, b1⟩ := hz1; have z1 := Lib.hid a1))
          | ((with_reducible refine at_wpX ?_); with_reducible refine LexK.wpX_plain (by decide +kernel) ?_)
          | ((with_reducible refine at_wpX ?_); with_reducible refine LexK.wpX_call ?_)
          | ((with_reducible refine at_wpX ?_); with_reducible refine LexK.wpX_nil ?_)
          | ((with_reducible refine at_ext ?_); with_reducible refine LexK.ext_on (LexK.Ext.of_below hb2' (Nat.le_refl _)) ?_)
          | ((with_reducible refine at_ext ?_); with_reducible refine LexK.ext_on (LexK.Ext.of_below hb3' (Nat.le_refl _)) ?_)
          | ((with_reducible refine at_ext ?_); with_reducible refine LexK.ext_on (ext_but hb4' Hnk.out) ?_)
          | ((with_reducible refine at_ext ?_); with_reducible refine LexK.ext_on (LexK.Ext.of_below hb8' (Nat.le_refl _)) ?_)
          | ((with_reducible refine at_ext ?_); with_reducible refine LexK.ext_on (LexK.Ext.of_below hb9' (Nat.le_refl _)) ?_)
          | ((with_reducible refine at_ext ?_); with_reducible refine LexK.ext_on (LexK.Ext.alloc _ _) ?_)
          | ((with_reducible refine at_ext ?_); with_reducible refine LexK.ext_on (LexK.Ext.of_below hbA' (Nat.le_refl _)) ?_)
          | (go_at_call 20; refine (hA _ Hlive.out.dk).mono ?_; rintro e u1 ⟨rfl, hU1⟩; have HL1 := Lib.hid (Hlive.out.upd hU1).drew; have hx1 := Lib.hid (ext_upd hU1 Hlt5.out); have HO1 := Lib.hid (ownsRow_but HO.out (But.of_upd hU1 (List.mem_singleton.2 rfl)) Hdb.out))
          | (go_at_call 25; first
              | (have q9 := HO8.out; refine (hC _).mono ?_; rintro e u9 ⟨rfl, hb9'⟩; have HO9 := Lib.hid (ownsRow_below HO8.out hb9' (Nat.le_refl _)); have hz9 := Lib.hid (Nat.le_trans hb8'.size hb9'.size))
              | (refine (hC _).mono ?_; rintro e u3 ⟨rfl, hb3'⟩; have HL3 := Lib.hid (HL2'.out.below hb3'); have HO3 := Lib.hid (ownsRow_below HO2.out hb3' (Nat.le_refl _)); have hx3 := Lib.hid (hx2.out.trans (LexK.Ext.of_below hb3' (Nat.le_refl _))))
              | (refine (hC _).mono ?_; rintro e u2 ⟨rfl, hb2'⟩; have HL2' := Lib.hid (HL1.out.below hb2'); have HO2 := Lib.hid (ownsRow_below (ownsRow_heap (w' := u1.drew) HO1.out rfl) hb2' (Nat.le_refl _)); have hx2 := Lib.hid (hx1.out.trans (LexK.Ext.of_below hb2' (Nat.le_refl _))); obtain ⟨a2, b2⟩ := Hxa.out _ hx2.out))
          | (go_at_call 35; refine (hP _ HL3.out).mono ?_; rintro e u4 ⟨rfl, hl4, hb4'⟩; have HL4 := Lib.hid hl4; clear hl4; have HO4 := Lib.hid (ownsRow_but HO3.out hb4' Hbl.out); have hx4 := Lib.hid (hx3.out.trans (ext_but hb4' Hnk.out)))
          | (go_at_call 36; first
              | (have q12 := hbC'; refine (slen_any t _ _ _ HLt2.out.st).mono ?_; rintro e ut ⟨rfl, rfl⟩)
              | (have q12 := hbB'; refine (slen_any t _ _ _ HLq.out.st).mono ?_; rintro e ut ⟨rfl, rfl⟩)
              | (refine (slen_any s _ _ _ HL4.out.st).mono ?_; rintro e us ⟨rfl, rfl⟩))
          | (go_at_call 21; refine (hR _ HL4.out.dk).mono ?_; rintro e u5 ⟨rfl, hU5⟩; have HL5 := Lib.hid (HL4.out.upd hU5); have HO5 := Lib.hid (ownsRow_but HO4.out (But.of_upd hU5 (List.mem_singleton.2 rfl)) Hdb.out); have hx5 := Lib.hid (hx4.out.trans (ext_upd0 hU5 Hlt5.out)))
          | (go_at_call 34; refine (sopen_any wb.heap.size D2 _ HAf.out.ok HL5.out.dk (by omega)).mono ?_; rintro e u6 ⟨hb6', hd6, h6⟩; rw [HAf.out.recs] at h6; obtain ⟨_, t, mbt, rfl, hl6, ht1, ht2⟩ := h6.resolve_left (fun h => h.1 HAf.out.code); have HL6 := Lib.hid hl6; have Hd6 := Lib.hid hd6; clear hl6 h6 hd6; have HO6 := Lib.hid (ownsRow_but HO5.out hb6' Hdb.out); have hx6 := Lib.hid (hx5.out.trans (ext_but hb6' Hnd.out)))
          | (go_at_call 13; have hrd := read_any wb.heap.size (sopenDk D2) _ Hd6.out; rw [HAf.out.dataO] at hrd; refine hrd.mono ?_; rintro e u6' ⟨rfl, rfl⟩; clear hrd)
          | (go_at_call 26; refine (hRd _).mono ?_; rintro e u7 ⟨p7, c7, rfl, ho7, hb7'⟩; have HX7 := Lib.hid ho7; clear ho7; have HO7 := Lib.hid (ownsRow_below HO6.out hb7' (Nat.le_refl _)); have hx7 := Lib.hid (hx6.out.trans (LexK.Ext.of_below hb7' (Nat.le_refl _))); have HL7 := Lib.hid (HL6.out.below hb7'))
          | (at_builtin; first
              | (refine wpList_append_recG rfl (.tmp 105) (.tmp 108) 46 rfl (by kernel_rfl) u7.drew.heap.size _ _ rfl hz9.out K' D' _ _ _ rfl HO9.out hl5 rfl ?_; intro v10 u10 ho10 hbelA hgA; have hq10 : u10.ownsRow u7.drew.heap.size 44 2 v10 L2.length (recCells L2) := (by rw [HlenL.out, HrecL.out]; exact ho10); have HOA := Lib.hid hq10; clear hq10 ho10; have HbA := Lib.hid (hbelA _ (hb8'.trans (hb9'.mono hb8'.size))); have HOa := Lib.hid (ownsRow_below (ownsRow_heap (w' := u7.drew) HO7.out rfl) HbA.out (Nat.le_refl _)); have HXa := Lib.hid (ownsRow_below (ownsRow_heap (w' := u7.drew) HX7.out rfl) HbA.out (Nat.le_refl _)); have HLt := Lib.hid (HL7.out.drew.below HbA.out); clear hbelA)
              | (refine wpList_append_copy rfl (.const (.slice none 0 0)) (.tmp 104) 46 rfl (by kernel_rfl) w2.heap.size u7.drew _ _ _ rfl rfl (ownsRow_heap (w' := u7.drew) HO7.out rfl) hl5 (recCells_one _) ?_; intro v8 u8 ho8 hb8'; have HO8 := Lib.hid ho8; clear ho8; obtain ⟨a8, b8⟩ := Hxa.out u8 ((show LexK.Ext (fun b => b = w.heap.size) wr u7.drew from hx7.out).trans (LexK.Ext.of_below hb8' (Nat.le_refl _)))))
          | ((with_reducible refine at_ext ?_); with_reducible refine LexK.ext_on (ext_grown hgA (ownB HO9.out (Nat.lt_of_lt_of_le (heap_lt Hg5.out) (LexK.Ext.size hx7.out)))) ?_)
          | (go_at_call 33; first
              | (have q11 := hbB'; refine (hS2 _ _ _ _ _ (ownsRow_below HXa.out hbB' (Nat.le_refl _)) (ownsRow_below HOA.out hbB' (Nat.le_refl _))).mono ?_; rintro e uC ⟨rfl, hbC'⟩; have HLt2 := Lib.hid (HLt.out.below hbB' |>.below hbC'))
              | (refine (hS1 _ _ _ _ _ HXa.out HOa.out).mono ?_; rintro e uB ⟨rfl, hbB'⟩; have HLq := Lib.hid (HLt.out.below hbB')))
          | (go_at_call 29; refine (hC2 _).mono ?_; rintro e uD ⟨rfl, hbD'⟩))
        go_ret
        have e0 := HB5.out.step Hsi.out.below
        have le5 : w.heap.size ≤ wb.heap.size := Nat.le_of_lt Hlt5.out
        have e1 := ((below_upd e0 hU1 le5).drew.step hb2').step hb3'
        have e2 := e1.trans (hb4'.below e1.size (by simp; omega))
        have e3 := below_upd e2 hU5 le5
        have e4 := e3.trans (hb6'.below e3.size (by simp; omega))
        exact ⟨rfl, (((((e4.step hb7').drew.step HbA.out).step hbB').step hbC').step hbD')⟩
      case inr.inr =>
        subst hc
        have hAs := hAf.size
        have hFr : readV (framesB L2) = (L2, ⟨#[]⟩) := by
          have := readV_frames (P := ⟨#[]⟩) (SmallC.small Hsm.out) recV_empty; rwa [append_nil] at this
        have hFz : (framesB L2).size ≤ 1048576 := by have := framesB_size Hsm.out; have := Hll.out; have := HlenL.out; omega
        have hRd := fun w => reads_val (framesB L2) hFz w
        rw [hFr] at hRd
        dsimp only at hRd
        have HAf := Lib.hid hAf; clear hAf hFr
        have hll5 : L2.length ≤ 1048576 := by have := Hll.out; have := HlenL.out; omega
        have hl5 : l.length ≤ 1048576 := by have := Hll.out; omega
        have hS1 : ∀ (B1 B2 : Nat) (v1 v2 : Value) (w : World), w.ownsRow B1 44 2 v1 L2.length (recCells L2) → w.ownsRow B2 44 2 v2 l.length (recCells l) → Calls Try.prog 33 #[v1, v2] w fun e w' => e = .returned (.bool false) ∧ Below w.heap.size w w' := by
          intro B1 B2 v1 v2 w h1 h2
          have := sameRecs_any B1 B2 v1 v2 L2 l w h1 h2 hll5 hl5
          rw [show decide (L2 = l) = false by simp [HneL.out]] at this
          exact this
        have hS2 : ∀ (B1 B2 : Nat) (v1 v2 : Value) (w : World), w.ownsRow B1 44 2 v1 L2.length (recCells L2) → w.ownsRow B2 44 2 v2 L2.length (recCells L2) → Calls Try.prog 33 #[v1, v2] w fun e w' => e = .returned (.bool true) ∧ Below w.heap.size w w' := by
          intro B1 B2 v1 v2 w h1 h2
          have := sameRecs_any B1 B2 v1 v2 L2 L2 w h1 h2 hll5 hll5
          rw [show decide (L2 = L2) = true by simp] at this
          exact this
        have hxa : ∀ (w' : World), LexK.Ext (fun b => b = w.heap.size) wr w' → w'.cell? ⟨w.heap.size, 0, none⟩ = some (.string K5) ∧ w'.cell? ⟨w.heap.size, 1, none⟩ = some (.string D5) := fun w' hx => by
          have := (hx.2 _ (heap_lt Hg5.out) rfl).trans Hg5.out
          exact ⟨cell_of_row _ _ _ _ _ _ this, cell_of_row _ _ _ _ _ _ this⟩
        have Hxa := Lib.hid hxa; clear hxa
        have hnk : ∀ x ∈ [s, mb, wb.heap.size], ¬ (fun b => b = w.heap.size) x := by have := Hlt5.out; simp; omega
        have Hnk := Lib.hid hnk; clear hnk
        have Hnd := Lib.hid (show ∀ x ∈ [wb.heap.size], ¬ (fun b => b = w.heap.size) x by have := Hlt5.out; simp; omega)
        have Hbl := Lib.hid (show ∀ x ∈ [s, mb, wb.heap.size], x < w2.heap.size by simp; omega)
        have Hdb := Lib.hid (show ∀ x ∈ [wb.heap.size], x < w2.heap.size by simp; omega)
        go_wp2_with (first
          | ((with_reducible refine at_finK ?_); refine LexK.finE_on (by kernel_rfl) (by repeat first | exact LexK.finL_nil | refine LexK.finL_none rfl ?_ | refine LexK.finL_skip (by decide +kernel) ?_ | refine LexK.finL_take rfl rfl z3.out ?_ | refine LexK.finL_take rfl rfl z1.out ?_) ?_)
          | ((with_reducible refine at_region ?_); with_reducible refine Lex.wp_region_lex (by kernel_rfl) (by decide +kernel) ?_)
          | ((with_reducible refine at_fin ?_); with_reducible refine Lex.fin_on (by kernel_rfl) ?_)
          | ((with_reducible refine at_region ?_); refine LexK.wp_region_lexE (fun b => b = w.heap.size) (by kernel_rfl) (by decide +kernel) ?_; first
              | (have hz7 := Hxa.out u7.drew hx7.out; obtain ⟨a3, b3⟩ := hz7; have z3 := Lib.hid a3)
              | (have hz1 := Hxa.out u1.drew hx1.out; obtain ⟨a1, b1⟩ := hz1; have z1 := Lib.hid a1))
          | ((with_reducible refine at_wpX ?_); with_reducible refine LexK.wpX_plain (by decide +kernel) ?_)
          | ((with_reducible refine at_wpX ?_); with_reducible refine LexK.wpX_call ?_)
          | ((with_reducible refine at_wpX ?_); with_reducible refine LexK.wpX_nil ?_)
          | ((with_reducible refine at_ext ?_); with_reducible refine LexK.ext_on (LexK.Ext.of_below hb2' (Nat.le_refl _)) ?_)
          | ((with_reducible refine at_ext ?_); with_reducible refine LexK.ext_on (LexK.Ext.of_below hb3' (Nat.le_refl _)) ?_)
          | ((with_reducible refine at_ext ?_); with_reducible refine LexK.ext_on (ext_but hb4' Hnk.out) ?_)
          | ((with_reducible refine at_ext ?_); with_reducible refine LexK.ext_on (LexK.Ext.of_below hb8' (Nat.le_refl _)) ?_)
          | ((with_reducible refine at_ext ?_); with_reducible refine LexK.ext_on (LexK.Ext.of_below hb9' (Nat.le_refl _)) ?_)
          | ((with_reducible refine at_ext ?_); with_reducible refine LexK.ext_on (LexK.Ext.alloc _ _) ?_)
          | ((with_reducible refine at_ext ?_); with_reducible refine LexK.ext_on (LexK.Ext.of_below hbA' (Nat.le_refl _)) ?_)
          | (go_at_call 20; refine (hA _ Hlive.out.dk).mono ?_; rintro e u1 ⟨rfl, hU1⟩; have HL1 := Lib.hid (Hlive.out.upd hU1).drew; have hx1 := Lib.hid (ext_upd hU1 Hlt5.out); have HO1 := Lib.hid (ownsRow_but HO.out (But.of_upd hU1 (List.mem_singleton.2 rfl)) Hdb.out))
          | (go_at_call 25; first
              | (have q9 := HO8.out; refine (hC _).mono ?_; rintro e u9 ⟨rfl, hb9'⟩; have HO9 := Lib.hid (ownsRow_below HO8.out hb9' (Nat.le_refl _)); have hz9 := Lib.hid (Nat.le_trans hb8'.size hb9'.size))
              | (refine (hC _).mono ?_; rintro e u3 ⟨rfl, hb3'⟩; have HL3 := Lib.hid (HL2'.out.below hb3'); have HO3 := Lib.hid (ownsRow_below HO2.out hb3' (Nat.le_refl _)); have hx3 := Lib.hid (hx2.out.trans (LexK.Ext.of_below hb3' (Nat.le_refl _))))
              | (refine (hC _).mono ?_; rintro e u2 ⟨rfl, hb2'⟩; have HL2' := Lib.hid (HL1.out.below hb2'); have HO2 := Lib.hid (ownsRow_below (ownsRow_heap (w' := u1.drew) HO1.out rfl) hb2' (Nat.le_refl _)); have hx2 := Lib.hid (hx1.out.trans (LexK.Ext.of_below hb2' (Nat.le_refl _))); obtain ⟨a2, b2⟩ := Hxa.out _ hx2.out))
          | (go_at_call 35; refine (hP _ HL3.out).mono ?_; rintro e u4 ⟨rfl, hl4, hb4'⟩; have HL4 := Lib.hid hl4; clear hl4; have HO4 := Lib.hid (ownsRow_but HO3.out hb4' Hbl.out); have hx4 := Lib.hid (hx3.out.trans (ext_but hb4' Hnk.out)))
          | (go_at_call 36; first
              | (have q12 := hbC'; refine (slen_any t _ _ _ HLt2.out.st).mono ?_; rintro e ut ⟨rfl, rfl⟩)
              | (have q12 := hbB'; refine (slen_any t _ _ _ HLq.out.st).mono ?_; rintro e ut ⟨rfl, rfl⟩)
              | (refine (slen_any s _ _ _ HL4.out.st).mono ?_; rintro e us ⟨rfl, rfl⟩))
          | (go_at_call 21; refine (hR _ HL4.out.dk).mono ?_; rintro e u5 ⟨rfl, hU5⟩; have HL5 := Lib.hid (HL4.out.upd hU5); have HO5 := Lib.hid (ownsRow_but HO4.out (But.of_upd hU5 (List.mem_singleton.2 rfl)) Hdb.out); have hx5 := Lib.hid (hx4.out.trans (ext_upd0 hU5 Hlt5.out)))
          | (go_at_call 34; refine (sopen_any wb.heap.size D2 _ HAf.out.ok HL5.out.dk (by omega)).mono ?_; rintro e u6 ⟨hb6', hd6, h6⟩; rw [HAf.out.recs] at h6; obtain ⟨_, t, mbt, rfl, hl6, ht1, ht2⟩ := h6.resolve_left (fun h => h.1 HAf.out.code); have HL6 := Lib.hid hl6; have Hd6 := Lib.hid hd6; clear hl6 h6 hd6; have HO6 := Lib.hid (ownsRow_but HO5.out hb6' Hdb.out); have hx6 := Lib.hid (hx5.out.trans (ext_but hb6' Hnd.out)))
          | (go_at_call 13; have hrd := read_any wb.heap.size (sopenDk D2) _ Hd6.out; rw [HAf.out.dataO] at hrd; refine hrd.mono ?_; rintro e u6' ⟨rfl, rfl⟩; clear hrd)
          | (go_at_call 26; refine (hRd _).mono ?_; rintro e u7 ⟨p7, c7, rfl, ho7, hb7'⟩; have HX7 := Lib.hid ho7; clear ho7; have HO7 := Lib.hid (ownsRow_below HO6.out hb7' (Nat.le_refl _)); have hx7 := Lib.hid (hx6.out.trans (LexK.Ext.of_below hb7' (Nat.le_refl _))); have HL7 := Lib.hid (HL6.out.below hb7'))
          | (at_builtin; first
              | (refine wpList_append_recG rfl (.tmp 105) (.tmp 108) 46 rfl (by kernel_rfl) u7.drew.heap.size _ _ rfl hz9.out K' D' _ _ _ rfl HO9.out hl5 rfl ?_; intro v10 u10 ho10 hbelA hgA; have hq10 : u10.ownsRow u7.drew.heap.size 44 2 v10 L2.length (recCells L2) := (by rw [HlenL.out, HrecL.out]; exact ho10); have HOA := Lib.hid hq10; clear hq10 ho10; have HbA := Lib.hid (hbelA _ (hb8'.trans (hb9'.mono hb8'.size))); have HOa := Lib.hid (ownsRow_below (ownsRow_heap (w' := u7.drew) HO7.out rfl) HbA.out (Nat.le_refl _)); have HXa := Lib.hid (ownsRow_below (ownsRow_heap (w' := u7.drew) HX7.out rfl) HbA.out (Nat.le_refl _)); have HLt := Lib.hid (HL7.out.drew.below HbA.out); clear hbelA)
              | (refine wpList_append_copy rfl (.const (.slice none 0 0)) (.tmp 104) 46 rfl (by kernel_rfl) w2.heap.size u7.drew _ _ _ rfl rfl (ownsRow_heap (w' := u7.drew) HO7.out rfl) hl5 (recCells_one _) ?_; intro v8 u8 ho8 hb8'; have HO8 := Lib.hid ho8; clear ho8; obtain ⟨a8, b8⟩ := Hxa.out u8 ((show LexK.Ext (fun b => b = w.heap.size) wr u7.drew from hx7.out).trans (LexK.Ext.of_below hb8' (Nat.le_refl _)))))
          | ((with_reducible refine at_ext ?_); with_reducible refine LexK.ext_on (ext_grown hgA (ownB HO9.out (Nat.lt_of_lt_of_le (heap_lt Hg5.out) (LexK.Ext.size hx7.out)))) ?_)
          | (go_at_call 33; first
              | (have q11 := hbB'; refine (hS2 _ _ _ _ _ (ownsRow_below HXa.out hbB' (Nat.le_refl _)) (ownsRow_below HOA.out hbB' (Nat.le_refl _))).mono ?_; rintro e uC ⟨rfl, hbC'⟩; have HLt2 := Lib.hid (HLt.out.below hbB' |>.below hbC'))
              | (refine (hS1 _ _ _ _ _ HXa.out HOa.out).mono ?_; rintro e uB ⟨rfl, hbB'⟩; have HLq := Lib.hid (HLt.out.below hbB')))
          | (go_at_call 29; refine (hC2 _).mono ?_; rintro e uD ⟨rfl, hbD'⟩))
        go_ret
        have e0 := HB5.out.step Hsi.out.below
        have le5 : w.heap.size ≤ wb.heap.size := Nat.le_of_lt Hlt5.out
        have e1 := ((below_upd e0 hU1 le5).drew.step hb2').step hb3'
        have e2 := e1.trans (hb4'.below e1.size (by simp; omega))
        have e3 := below_upd e2 hU5 le5
        have e4 := e3.trans (hb6'.below e3.size (by simp; omega))
        exact ⟨rfl, (((((e4.step hb7').drew.step HbA.out).step hbB').step hbC').step hbD')⟩
end Go.Proofs.Ytmflngpgmmgohaa
