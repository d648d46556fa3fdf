/-
  Walks: normalize, has, minus, both.
-/
import Derived.Test.YtejiagmfinhjbaaNl
namespace Go.Proofs.Ytejiagmfinhjbaa
open Go.RowKit Go.Ident Go.Names

theorem SL.lim {w : World} {p : Option Addr} {L : List Nm} (h : SL w p L) : ∀ x ∈ L, x.length ≤ maxLen := h.size
theorem OS.drew {B : Nat} {w : World} {v : Value} {L : List Nm} (h : OS B w v L) : OS B w.drew v L := ⟨h.row, h.size⟩
theorem SL.drew {w : World} {p : Option Addr} {L : List Nm} (h : SL w p L) : SL w.drew p L := ⟨h.cell, h.size⟩
theorem OS.setRow {B n : Nat} {w : World} {v : Value} {L : List Nm} (h : OS B w v L) (hn : n < B) (cs : Array Value) : OS B (w.setRow n cs) v L :=
  ⟨h.row.kept (row := some n) ⟨rfl, rfl, rfl, by rw [size_setRow]; exact Nat.le_refl _, fun k _ hk => setRow_other w n k _ (fun e => hk (by rw [e]))⟩ (.inr fun e => by have := (h.row.lt n e).1; omega), h.size⟩
theorem OS.low {B : Nat} {w : World} {p : Option Addr} {n cap : Nat} {L : List Nm} (h : OS B w (.slice p n cap) L) : ∀ a, p = some a → 0 < L.length → B ≤ a.block := by
  intro a ha hl
  rcases h.row.2 with ⟨h1, h2⟩ | ⟨g, cap', cur, h1, h2, h3, _⟩
  · omega
  · injection h1 with h1 h5 h6
    subst ha
    injection h1 with h1
    subst h1
    exact h2
/-- A set of names comes back: whether it is cofinite, and its list, in memory of the call's own. -/
def NA (w0 : World) (c : Bool) (L : List Nm) (e : Ending) (w' : World) : Prop :=
  ∃ p cap, e = .returned (.agg #[.bool c, .slice p L.length cap]) ∧ SL w' p L ∧ (∀ a, p = some a → 0 < L.length → w0.heap.size ≤ a.block) ∧ Below w0.heap.size w0 w'
theorem two_row0 (w : World) (o1 o2 : Obj) : ((w.alloc o1).alloc o2).heap[w.heap.size]? = some o1 := (heap_alloc_old _ _ (by simp)).trans (heap_alloc_new _ _)
theorem two_row1 (w : World) (o1 o2 : Obj) : ((w.alloc o1).alloc o2).heap[w.heap.size + 1]? = some o2 := by
  have := heap_alloc_new (w.alloc o1) o2
  simpa using this
theorem cell_keep {B n o : Nat} {w w' : World} {v : Value} (h : Below B w w') (hn : n < B) (hv : w.cell? ⟨n, o, none⟩ = some v) : w'.cell? ⟨n, o, none⟩ = some v := (h.cell (p := ⟨n, o, none⟩) hn).trans hv
theorem row_keep {B n : Nat} {w w' : World} {o : Obj} (h : Below B w w') (hn : n < B) (hv : w.heap[n]? = some o) : w'.heap[n]? = some o := (h.block n hn).trans hv
theorem ext_at {n B : Nat} {w w' : World} (h : Below B w w') (hn : n < B) : LexK.Ext (fun x => x = n) w w' := ⟨h.size, fun b _ hk => h.block b (by subst hk; exact hn)⟩
set_option maxRecDepth 100000 in
set_option maxHeartbeats 8000000 in
theorem normalize_any (c : Bool) (p : Option Addr) (cap : Nat) (L : List Nm) (hl : L.length ≤ 1000000) (w : World) (hS : SL w p L) :
    Calls Try.prog 29 #[.agg #[.bool c, .slice p L.length cap]] w (NA w c (nrm L)) := by
  have hb0 : Below w.heap.size w ((w.alloc (.cells #[.bool c, .slice p L.length cap] 25)).alloc (.cells #[.bool false, .slice none 0 0] 45)) := below_alloc ((Below.refl _ _).alloc (Nat.le_refl _) _) _
  have hcl := clone_any p cap L hl ((w.alloc (.cells #[.bool c, .slice p L.length cap] 25)).alloc (.cells #[.bool false, .slice none 0 0] 45)) (hS.below hb0)
  obtain ⟨n, hn⟩ : ∃ n, n = L.length := ⟨_, rfl⟩
  rw [← hn] at hcl hb0 ⊢
  have Hb0 := Lib.hid hb0; clear hb0
  have Hn := Lib.hid hn; clear hn
  have Hl := Lib.hid hl; clear hl hS
  have hs0 : ((w.alloc (.cells #[.bool c, .slice p n cap] 25)).alloc (.cells #[.bool false, .slice none 0 0] 45)).heap.size = w.heap.size + 2 := by simp
  have hr0 := two_row0 w (.cells #[.bool c, .slice p n cap] 25) (.cells #[.bool false, .slice none 0 0] 45)
  have hr1 := two_row1 w (.cells #[.bool c, .slice p n cap] 25) (.cells #[.bool false, .slice none 0 0] 45)
  have hsl : (srt L).length ≤ 1000000 := Nat.le_trans (Nat.le_of_eq (List.mergeSort_perm L _).length_eq) Hl.out
  have Hs := Lib.hid hsl; clear hsl
  go_enter Try.func29, Try.ntmps29
  go_upto_region 1 with fail
  generalize (w.alloc (.cells #[.bool c, .slice p n cap] 25)).alloc (.cells #[.bool false, .slice none 0 0] 45) = wb at *
  have x0 : wb.cell? ⟨w.heap.size, 0, none⟩ = some (.bool c) := cell_of_row _ _ _ _ _ _ hr0
  have x1 : wb.cell? ⟨w.heap.size, 1, none⟩ = some (.slice p n cap) := cell_of_row _ _ _ _ _ _ hr0
  have Hr1 := Lib.hid hr1
  have Hlt := Lib.hid (show w.heap.size < wb.heap.size by omega)
  have Hlt1 := Lib.hid (show w.heap.size + 1 < wb.heap.size by omega)
  clear hr0 hr1 hs0
  go_wp2_with (first
    | ((with_reducible refine Lex.at_finK ?_); refine LexK.finE_on (by kernel_rfl) (by repeat first | exact LexK.finL_nil | refine LexK.finL_none rfl ?_ | refine LexK.finL_skip (by decide +kernel) ?_ | refine LexK.finL_take rfl rfl z0.out ?_) ?_)
    | ((with_reducible refine Lex.at_region ?_); refine LexK.wp_region_lexE (fun b => b = w.heap.size) (by kernel_rfl) (by decide +kernel) ?_; have y0 : w2.drew.cell? ⟨w.heap.size, 0, none⟩ = some (.bool c) := z2.out; have z0 := Lib.hid y0; have Ho2d := Lib.hid (OS.drew Ho2.out); have HB2d := Lib.hid HB2.out.drew)
    | ((with_reducible refine Lex.at_wpX ?_); with_reducible refine LexK.wpX_plain (by decide +kernel) ?_)
    | ((with_reducible refine Lex.at_wpX ?_); with_reducible refine LexK.wpX_call ?_)
    | ((with_reducible refine Lex.at_wpX ?_); with_reducible refine LexK.wpX_nil ?_)
    | ((with_reducible refine Lex.at_ext ?_); with_reducible refine LexK.ext_on hex3.out ?_)
    | ((with_reducible refine Lex.at_ext ?_); with_reducible refine LexK.ext_on (LexK.Ext.refl _) ?_)
    | (go_at_call 42; refine hcl.mono ?_; rintro e w1 ⟨v1, rfl, ho1, hb1⟩; have Ho1 := Lib.hid ho1; have Hb1 := Lib.hid hb1; clear ho1 hb1)
    | (go_at_call 43; refine (sort_any _ _ _ Hl.out _ Ho1.out).mono ?_; rintro e w2 ⟨rfl, ho2, hb2⟩; have Ho2 := Lib.hid ho2; have HB2 := Lib.hid (Hb1.out.trans hb2); have z2 := Lib.hid (cell_keep HB2.out Hlt.out x0); clear hb2 ho2)
    | (go_at_call 45; refine (compact_any _ _ _ Hs.out _ Ho2d.out).mono ?_; rintro e w3 ⟨v3, rfl, ho3, hb3⟩; have Ho3 := Lib.hid ho3; have hex3 := Lib.hid (ext_at hb3 Hlt.out); have HB3 := Lib.hid (HB2d.out.trans hb3); have Hr3 := Lib.hid (row_keep HB3.out Hlt1.out Hr1.out); clear hb3 ho3; obtain ⟨p3, cap3, rfl, hle3⟩ := Ho3.out.cut)
    | (go_at_call 44; refine (clip_any _ _ _ hle3 _).mono ?_; rintro e w4 ⟨rfl, hw4⟩; subst hw4)
    | ((with_reducible refine at_store ?_); refine wpList_store_row rfl 45 (.tmp 2) (.tmp 15) rfl _ _ rfl rfl _ _ Hr3.out (by kernel_rfl) (by kernel_rfl) (by kernel_rfl) ?_))
  exact bodyPost_ret (results_cell_row rfl _ _ (w.heap.size + 1) 45 _ (0, 0) _ rfl (setRow_heap _ _ _ _ _ _ Hr3.out) rfl rfl (by kernel_rfl)) rfl
    ⟨p3, _, rfl, (OS.setRow Ho3.out Hlt1.out _).sl, (OS.base Ho3.out (Nat.le_of_lt Hlt.out)).low, below_setRow (Hb0.out.trans (HB3.out.mono (Nat.le_of_lt Hlt.out))) (by omega) _⟩

theorem ext_lt {B : Nat} {w w' : World} (h : Below B w w') : LexK.Ext (fun b => b < B) w w' := ⟨h.size, fun b _ hk => h.block b hk⟩
theorem drew_trans {B : Nat} {w w' : World} (h : Below B w.drew w') : Below B w w' := (Below.refl B w).drew.trans h
theorem ext_any {Kp : Nat → Prop} {w w' : World} (h : Below w.heap.size w w') : LexK.Ext Kp w w' := LexK.Ext.of_below h (Nat.le_refl _)
set_option maxRecDepth 100000 in
theorem has_any (c : Bool) (p : Option Addr) (cap : Nat) (L : List Nm) (x : Nm) (hA : Asc L) (hl : L.length ≤ 1000000) (w : World) (hS : SL w p L) :
    Calls Try.prog 32 #[.agg #[.bool c, .slice p L.length cap], .string (toB x)] w fun e w' => e = .returned (.bool (decide (x ∈ L))) ∧ Below w.heap.size w w' := by
  have hb0 : Below w.heap.size w (w.alloc (.cells #[.bool c, .slice p L.length cap] 45)) := (Below.refl _ _).alloc (Nat.le_refl _) _
  have hs := search_any p cap L x hA hl _ (hS.below hb0)
  have Hb0 := Lib.hid hb0; clear hb0 hl hS hA
  have Hsz := Lib.hid (show w.heap.size ≤ (w.alloc (.cells #[.bool c, .slice p L.length cap] 45)).heap.size by simp)
  generalize decide (x ∈ L) = r at *
  generalize L.length = n at *
  generalize toB x = y at *
  go_enter Try.func32, Try.ntmps32
  go_wp2_with (first
    | (go_at_call 46; refine hs.mono ?_; rintro e w1 ⟨⟨i, rfl⟩, hb1⟩; have Hb1 := Lib.hid hb1; clear hb1))
  go_ret
  exact ⟨rfl, Hb0.out.trans (Hb1.out.mono Hsz.out)⟩
set_option maxRecDepth 100000 in
set_option maxHeartbeats 8000000 in
theorem both_any (c1 : Bool) (p1 : Option Addr) (cap1 : Nat) (L1 : List Nm) (h1 : L1.length ≤ 1000000) (c2 : Bool) (p2 : Option Addr) (cap2 : Nat) (L2 : List Nm) (h2 : L2.length ≤ 1000000) (w : World) (hS1 : SL w p1 L1) (hS2 : SL w p2 L2) :
    Calls Try.prog 30 #[.agg #[.bool c1, .slice p1 L1.length cap1], .agg #[.bool c2, .slice p2 L2.length cap2]] w fun e w' => ∃ v, e = .returned v ∧ OS w.heap.size w' v (L1 ++ L2) ∧ Below w.heap.size w w' := by
  have hb0 : Below w.heap.size w ((w.alloc (.cells #[.bool c1, .slice p1 L1.length cap1] 45)).alloc (.cells #[.bool c2, .slice p2 L2.length cap2] 45)) := below_alloc ((Below.refl _ _).alloc (Nat.le_refl _) _) _
  have hcl := clone_any p1 cap1 L1 h1 _ ((hS1.below hb0).drew)
  have hS2' := hS2.below hb0
  have hs0 : ((w.alloc (.cells #[.bool c1, .slice p1 L1.length cap1] 45)).alloc (.cells #[.bool c2, .slice p2 L2.length cap2] 45)).heap.size = w.heap.size + 2 := by simp
  have hr0 := two_row0 w (.cells #[.bool c1, .slice p1 L1.length cap1] 45) (.cells #[.bool c2, .slice p2 L2.length cap2] 45)
  have hr1 := two_row1 w (.cells #[.bool c1, .slice p1 L1.length cap1] 45) (.cells #[.bool c2, .slice p2 L2.length cap2] 45)
  have H1 := Lib.hid h1; have H2 := Lib.hid h2
  clear hS1 hS2 h1 h2
  have HS2 := Lib.hid hS2'; clear hS2'
  have Hb0 := Lib.hid hb0; clear hb0
  go_enter Try.func30, Try.ntmps30
  go_upto_region 1 with fail
  generalize (w.alloc (.cells #[.bool c1, .slice p1 L1.length cap1] 45)).alloc (.cells #[.bool c2, .slice p2 L2.length cap2] 45) = wb at *
  have x1 : wb.cell? ⟨w.heap.size, 1, none⟩ = some (.slice p1 L1.length cap1) := cell_of_row _ _ _ _ _ _ hr0
  have x2 : wb.cell? ⟨w.heap.size + 1, 1, none⟩ = some (.slice p2 L2.length cap2) := cell_of_row _ _ _ _ _ _ hr1
  have Hlt := Lib.hid (show w.heap.size < wb.heap.size by omega)
  have Hlt1 := Lib.hid (show w.heap.size + 1 < wb.heap.size by omega)
  clear hr0 hr1 hs0
  go_wp2_with (first
    | ((with_reducible refine Lex.at_finK ?_); refine LexK.finE_on (by kernel_rfl) (by repeat first | exact LexK.finL_nil | refine LexK.finL_none rfl ?_ | refine LexK.finL_skip (by decide +kernel) ?_ | refine LexK.finL_take rfl Hlt1.out z2.out ?_) ?_)
    | ((with_reducible refine Lex.at_region ?_); refine LexK.wp_region_lexE (fun b => b < wb.heap.size) (by kernel_rfl) (by decide +kernel) ?_; have y2 : wb.drew.cell? ⟨w.heap.size + 1, 1, none⟩ = some (.slice p2 L2.length cap2) := x2; have z2 := Lib.hid y2; have y1 : wb.drew.cell? ⟨w.heap.size, 1, none⟩ = some (.slice p1 L1.length cap1) := x1)
    | ((with_reducible refine Lex.at_wpX ?_); with_reducible refine LexK.wpX_plain (by decide +kernel) ?_)
    | ((with_reducible refine Lex.at_wpX ?_); with_reducible refine LexK.wpX_call ?_)
    | ((with_reducible refine Lex.at_wpX ?_); with_reducible refine LexK.wpX_nil ?_)
    | ((with_reducible refine Lex.at_ext ?_); with_reducible refine LexK.ext_on hex2.out ?_)
    | ((with_reducible refine Lex.at_ext ?_); with_reducible refine LexK.ext_on hex1.out ?_)
    | (go_at_call 42; refine hcl.mono ?_; rintro e w1 ⟨v1, rfl, ho1, hb1⟩; have Ho1 := Lib.hid ho1; have Hb1 := Lib.hid (drew_trans hb1); have hex1 := Lib.hid (show LexK.Ext (fun b => b < wb.heap.size) wb.drew w1 from ext_lt hb1); have y3 := cell_keep Hb1.out Hlt1.out x2; have Hs2 := Lib.hid (HS2.out.below Hb1.out); clear ho1 hb1)
    | (at_builtin; refine wpList_append_names rfl (.tmp 8) (.tmp 11) rfl wb.heap.size _ Hb1.out.size v1 L1 L2 rfl Ho1.out H1.out p2 cap2 Hs2.out H2.out rfl ?_; intro v' w2 ho2 hb2; have Ho2 := Lib.hid ho2; have Hb2 := Lib.hid (hb2 _ Hb1.out); have hex2 := Lib.hid (ext_lt (hb2 _ (Below.refl _ _))); clear ho2 hb2))
  go_ret
  exact ⟨_, rfl, Ho2.out.base Hb0.out.size, Hb0.out.trans (Hb2.out.mono Hb0.out.size)⟩
theorem at_load {P : Program} {ops : Array Oper} {rest : List Oper} {d : Option Tmp} {ty ty2 : TypeId} {x : Operand} {pos : String} {after : Array Edge} {g : Option (Nat × Bool)} {a : Act} {w : World} {Q : Exit → Act → World → Prop}
    (h : wpList P ops Q ({ dst := d, op := .load ty x, type := ty2, pos := pos, after := after, guard := g } :: rest) a w) : wpList P ops Q ({ dst := d, op := .load ty x, type := ty2, pos := pos, after := after, guard := g } :: rest) a w := h
/-- The names of a list that another one lacks. -/
def lacks (M L : List Nm) : List Nm := L.filter fun x => !decide (x ∈ M)
/-- The names of a list that another one has. -/
def shares (M L : List Nm) : List Nm := L.filter fun x => decide (x ∈ M)
structure OI (w : World) (B : Nat) (v : Value) (L : List Nm) (wr : World) : Prop where
  own : OS B wr v L
  below : Below B w wr
set_option maxRecDepth 100000 in
set_option maxHeartbeats 8000000 in
theorem minus_any (c1 : Bool) (p1 : Option Addr) (cap1 : Nat) (L1 : List Nm) (h1 : L1.length ≤ 1000000) (c2 : Bool) (p2 : Option Addr) (cap2 : Nat) (L2 : List Nm) (hA : Asc L2) (h2 : L2.length ≤ 1000000) (w : World) (hS1 : SL w p1 L1) (hS2 : SL w p2 L2) :
    Calls Try.prog 31 #[.agg #[.bool c1, .slice p1 L1.length cap1], .agg #[.bool c2, .slice p2 L2.length cap2]] w fun e w' => ∃ v, e = .returned v ∧ OS w.heap.size w' v (lacks L2 L1) ∧ Below w.heap.size w w' := by
  have hb0 : Below w.heap.size w ((w.alloc (.cells #[.bool c1, .slice p1 L1.length cap1] 45)).alloc (.cells #[.bool c2, .slice p2 L2.length cap2] 45)) := below_alloc ((Below.refl _ _).alloc (Nat.le_refl _) _) _
  have hS1' := hS1.below hb0
  have hS2' := hS2.below hb0
  have hs0 : ((w.alloc (.cells #[.bool c1, .slice p1 L1.length cap1] 45)).alloc (.cells #[.bool c2, .slice p2 L2.length cap2] 45)).heap.size = w.heap.size + 2 := by simp
  have hr0 := two_row0 w (.cells #[.bool c1, .slice p1 L1.length cap1] 45) (.cells #[.bool c2, .slice p2 L2.length cap2] 45)
  have hr1 := two_row1 w (.cells #[.bool c1, .slice p1 L1.length cap1] 45) (.cells #[.bool c2, .slice p2 L2.length cap2] 45)
  have H1 := Lib.hid h1; have H2 := Lib.hid h2; have HA := Lib.hid hA
  clear hS1 hS2 h1 h2 hA
  have HS1 := Lib.hid hS1'; clear hS1'
  have HS2 := Lib.hid hS2'; clear hS2'
  have Hb0 := Lib.hid hb0; clear hb0
  go_enter Try.func31, Try.ntmps31
  go_upto_region 1 with fail
  generalize (w.alloc (.cells #[.bool c1, .slice p1 L1.length cap1] 45)).alloc (.cells #[.bool c2, .slice p2 L2.length cap2] 45) = wb at *
  have x1 : wb.cell? ⟨w.heap.size, 1, none⟩ = some (.slice p1 L1.length cap1) := cell_of_row _ _ _ _ _ _ hr0
  have Hr1 := Lib.hid hr1
  have Hlt1 := Lib.hid (show w.heap.size + 1 < wb.heap.size by omega)
  clear hr0 hr1 hs0
  go_wp2
  go_loopw [5, 12] (fun v i wr => ∃ k : Nat, k ≤ L1.length ∧ i = .int .i64 k ∧ OI wb wb.heap.size v (lacks L2 (L1.take k)) wr) (fun _ i _ => L1.length - (intOf i).toNat)
  case atStart => exact ⟨0, by omega, rfl, OS.nil _ _, Below.refl _ _⟩
  case round =>
    obtain ⟨k, hk, rfl, hoi⟩ := hrel
    have Hoi := Lib.hid hoi; clear hoi
    have hl1 := H1.out
    by_cases hlt : k < L1.length
    · obtain ⟨a, o, rfl, ha, c0⟩ := (HS1.out.below Hoi.out.below).cell k hlt
      have hr2 := row_keep Hoi.out.below Hlt1.out Hr1.out
      have hh := has_any c2 p2 cap2 L2 L1[k] HA.out H2.out wr (HS2.out.below Hoi.out.below)
      have Hsz := Lib.hid (HS1.out.size L1[k] (List.getElem_mem hlt))
      have htk : lacks L2 (L1.take (k + 1)) = lacks L2 (L1.take k) ++ (if L1[k] ∈ L2 then [] else [L1[k]]) := by
        unfold lacks
        rw [List.take_succ_eq_append_getElem hlt, List.filter_append]
        congr 1
        by_cases hm : L1[k] ∈ L2 <;> simp [hm]
      have Htk := Lib.hid htk; clear htk
      have Hln := Lib.hid (show (lacks L2 (L1.take k)).length ≤ 1000000 from Nat.le_trans (List.length_filter_le _ _) (by simp; have := H1.out; omega))
      generalize L1[k] = x at *
      have Hr2 := Lib.hid hr2; clear hr2 ha
      cases hd : decide (x ∈ L2) with
      | true =>
        rw [hd] at hh
        have hm : x ∈ L2 := by simpa using hd
        clear hd
        go_wp2_with (first
          | ((with_reducible refine at_load ?_); refine wpList_load_row rfl 45 (.tmp 3) rfl _ rfl _ _ (0, 0) _ Hr2.out rfl rfl (by kernel_rfl) ?_)
          | (go_at_call 32; refine hh.mono ?_; rintro e w1 ⟨rfl, hb1⟩; have Hb1 := Lib.hid hb1; clear hb1))
        refine ⟨⟨k + 1, by omega, by go_num, ?_⟩, by simp [intOf]; omega⟩
        rw [Htk.out, if_pos hm, List.append_nil]
        exact ⟨Hoi.out.own.below Hb1.out, Hoi.out.below.trans (Hb1.out.mono Hoi.out.below.size)⟩
      | false =>
        rw [hd] at hh
        have hm : ¬ x ∈ L2 := by simpa using hd
        clear hd
        go_wp2_with (first
          | ((with_reducible refine at_load ?_); refine wpList_load_row rfl 45 (.tmp 3) rfl _ rfl _ _ (0, 0) _ Hr2.out rfl rfl (by kernel_rfl) ?_)
          | (go_at_call 32; refine hh.mono ?_; rintro e w1 ⟨rfl, hb1⟩; have Hb1 := Lib.hid hb1; have Ho1 := Lib.hid (Hoi.out.own.below hb1); have HB1 := Lib.hid (Hoi.out.below.trans (hb1.mono Hoi.out.below.size)); clear hb1)
          | (at_builtin; refine wpList_append_name rfl (.tmp 20) (.tmp 22) rfl wb.heap.size _ HB1.out.size x Hsz.out _ _ rfl Ho1.out Hln.out rfl ?_; intro v' w2 ho2 hb2; have Ho2 := Lib.hid ho2; have HB2 := Lib.hid (hb2 _ HB1.out); clear ho2 hb2))
        refine ⟨⟨k + 1, by omega, by go_num, ?_⟩, by simp [intOf]; omega⟩
        rw [Htk.out, if_neg hm]
        exact ⟨Ho2.out, HB2.out⟩
    · obtain rfl : k = L1.length := by omega
      rw [List.take_length] at Hoi
      go_wp2
      go_ret
      exact ⟨_, rfl, Hoi.out.own.base Hb0.out.size, Hb0.out.trans (Hoi.out.below.mono Hb0.out.size)⟩
end Go.Proofs.Ytejiagmfinhjbaa
