/-
  Walks: reading records.
-/
import Derived.Test.YtmflngpgmmgohaaSh
namespace Go.Proofs.Ytmflngpgmmgohaa
open Go.RowKit

theorem results_cell_two {P : Program} {fn : Func} {p u v : Tmp} {ty : TypeId} (h : fn.results = #[.cell p ty, .tmp u, .tmp v]) (tmps : Array Value) (w : World) (g : Nat) (t : TypeId) (cs : Array Value) (fr : Nat × Nat) (d : TypeDesc)
    (hp : tmps.getD p undef = .pointer (some ⟨g, 0, none⟩)) (hg : w.heap[g]? = some (.cells cs t fr))
    (hu : P.underlying ty = some d) (hd : (match d with | .struct _ | .array _ _ => true | _ => false) = true) (hi : (P.info? ty).map (·.size) = some cs.size) :
    (results fn tmps).run P w = .ok (.tuple #[.agg cs, tmps.getD u undef, tmps.getD v undef]) w := by
  have hp' : tmps[p]?.getD undef = .pointer (some ⟨g, 0, none⟩) := by simpa using hp
  simp [results, h, hp', asAddr, run_loadVar_row w g t ty cs fr d hg hu hd hi]

theorem below_setRow {B b : Nat} {w w' : World} (h : Below B w w') (hb : B ≤ b) (cs : Array Value) : Below B w (w'.setRow b cs) :=
  ⟨h.os, h.tape, h.output, by rw [size_setRow]; exact h.size, fun i hi => by rw [setRow_other _ _ _ _ (by omega)]; exact h.block i hi⟩

def recV (s : ByteArray) : Option ((ByteArray × ByteArray) × ByteArray) :=
  match cutV s with
  | none => none
  | some (body, rest) =>
    if (openV body).2 = 0 then
      match cutV (openV body).1 with
      | none => none
      | some (key, o) =>
        match cutV o with
        | none => none
        | some (data, o2) => if o2 = ⟨#[]⟩ then some ((key, data), rest) else none
    else none

def recR (o : Option ((ByteArray × ByteArray) × ByteArray)) (e : Ending) : Prop :=
  match o with
  | some ((k, d), r) => e = .returned (.tuple #[.agg #[.string k, .string d], .string r, .bool true])
  | none => ∃ (k d r : ByteArray), e = .returned (.tuple #[.agg #[.string k, .string d], .string r, .bool false])

abbrev rec0 : Array Value := #[.string ⟨#[]⟩, .string ⟨#[]⟩]
theorem openV_size (s : ByteArray) : (openV s).1.size ≤ s.size := by
  unfold openV; split
  · exact Nat.zero_le _
  · split
    · exact extract_size_le _ _ _
    · exact Nat.zero_le _
theorem isEmpty_no {o : ByteArray} (h : ¬ o = ⟨#[]⟩) : o.toList.isEmpty = false := by
  rw [ByteArray.toList_eq, List.isEmpty_eq_false_iff]; intro h2; apply h; cases o; simp_all
theorem isEmpty_yes {o : ByteArray} (h : o = ⟨#[]⟩) : o.toList.isEmpty = true := by subst h; rw [ByteArray.toList_eq]; rfl

set_option maxRecDepth 100000 in
set_option maxHeartbeats 8000000 in
theorem record_none1 (s : ByteArray) (hs : s.size ≤ 1048576) (h1 : cutV s = none) (w : World) :
    Calls Try.prog 53 #[.string s] w fun e w' => recR none e ∧ Below w.heap.size w w' := by
  have hL1 := cut_any s hs
  rw [h1] at hL1; simp only [cutR] at hL1
  have hb := Below.refl w.heap.size w
  have hg0 := heap_alloc_new w (.cells rec0 44)
  have hb0 : ∀ {w1}, Below (w.alloc (.cells rec0 44)).heap.size (w.alloc (.cells rec0 44)) w1 → w1.heap[w.heap.size]? = some (.cells rec0 44) := fun hb1 => (hb1.block _ (by simp)).trans hg0
  go_enter Try.func53, Try.ntmps53
  go_wp2_with (first
    | (with_reducible refine Lex.wp_region_lex (by kernel_rfl) (by decide +kernel) ?_)
    | (with_reducible refine Lex.fin_on (by kernel_rfl) ?_)
    | (go_at_call 70; first
      | (with_reducible refine (hL1 _).mono ?_; rintro e w1 ⟨rfl, hb1⟩; have hg1 := hb0 hb1)
    )
    | (go_at_call 71; refine (hO _).mono ?_; rintro e wo ⟨rfl, hbo⟩; have hg2 := (hbo.block _ (by have := hb1.size; simp at this; omega)).trans hg1)
    | (with_reducible refine wpList_store_row rfl 44 (.tmp 2) (.tmp 20) rfl _ _ rfl rfl _ _ hg1 (by kernel_rfl) (by kernel_rfl) (by kernel_rfl) ?_))
  refine bodyPost_ret (results_cell_two rfl _ _ w.heap.size 44 _ (0, 0) _ rfl (setRow_heap _ _ _ _ _ _ hg1) rfl rfl (by kernel_rfl)) rfl ⟨?_, below_setRow ?_ (Nat.le_refl _) _⟩
  · exact ⟨_, _, _, rfl⟩
  · exact (hb.alloc (Nat.le_refl _) _).trans (hb1.mono (by simp))

set_option maxRecDepth 100000 in
set_option maxHeartbeats 8000000 in
theorem record_none2 (s : ByteArray) (hs : s.size ≤ 1048576) {body rest : ByteArray} (h1 : cutV s = some (body, rest)) (h2 : ¬ (openV body).2 = 0) (w : World) :
    Calls Try.prog 53 #[.string s] w fun e w' => recR none e ∧ Below w.heap.size w w' := by
  have hL1 := cut_any s hs
  rw [h1] at hL1; simp only [cutR] at hL1
  have z1 := cutV_size h1
  have z2 := openV_size body
  have hO := open_any body (by omega)
  have hd : ((openV body).2 == 0) = false := by simpa using h2
  generalize (openV body).1 = op at *
  generalize (openV body).2 = c at *
  have hb := Below.refl w.heap.size w
  have hg0 := heap_alloc_new w (.cells rec0 44)
  have hb0 : ∀ {w1}, Below (w.alloc (.cells rec0 44)).heap.size (w.alloc (.cells rec0 44)) w1 → w1.heap[w.heap.size]? = some (.cells rec0 44) := fun hb1 => (hb1.block _ (by simp)).trans hg0
  go_enter Try.func53, Try.ntmps53
  go_wp2_with (first
    | (with_reducible refine Lex.wp_region_lex (by kernel_rfl) (by decide +kernel) ?_)
    | (with_reducible refine Lex.fin_on (by kernel_rfl) ?_)
    | (go_at_call 70; first
      | (with_reducible refine (hL1 _).mono ?_; rintro e w1 ⟨rfl, hb1⟩; have hg1 := hb0 hb1)
    )
    | (go_at_call 71; refine (hO _).mono ?_; rintro e wo ⟨rfl, hbo⟩; have hg2 := (hbo.block _ (by have := hb1.size; simp at this; omega)).trans hg1)
    | (with_reducible refine wpList_store_row rfl 44 (.tmp 2) (.tmp 28) rfl _ _ rfl rfl _ _ hg2 (by kernel_rfl) (by kernel_rfl) (by kernel_rfl) ?_))
  refine bodyPost_ret (results_cell_two rfl _ _ w.heap.size 44 _ (0, 0) _ rfl (setRow_heap _ _ _ _ _ _ hg2) rfl rfl (by kernel_rfl)) rfl ⟨?_, below_setRow ?_ (Nat.le_refl _) _⟩
  · exact ⟨_, _, _, rfl⟩
  · exact ((hb.alloc (Nat.le_refl _) _).trans (hb1.mono (by simp))).trans (hbo.mono (by have := hb1.size; simp at this; omega))

set_option maxRecDepth 100000 in
set_option maxHeartbeats 8000000 in
theorem record_none3 (s : ByteArray) (hs : s.size ≤ 1048576) {body rest : ByteArray} (h1 : cutV s = some (body, rest)) (h2 : (openV body).2 = 0) (h3 : cutV (openV body).1 = none) (w : World) :
    Calls Try.prog 53 #[.string s] w fun e w' => recR none e ∧ Below w.heap.size w w' := by
  have hL1 := cut_any s hs
  rw [h1] at hL1; simp only [cutR] at hL1
  have z1 := cutV_size h1
  have z2 := openV_size body
  have hO := open_any body (by omega)
  have hL3 := cut_any (openV body).1 (by omega)
  rw [h3] at hL3; simp only [cutR] at hL3
  rw [h2] at hO
  generalize (openV body).1 = op at *
  have hb := Below.refl w.heap.size w
  have hg0 := heap_alloc_new w (.cells rec0 44)
  have hb0 : ∀ {w1}, Below (w.alloc (.cells rec0 44)).heap.size (w.alloc (.cells rec0 44)) w1 → w1.heap[w.heap.size]? = some (.cells rec0 44) := fun hb1 => (hb1.block _ (by simp)).trans hg0
  go_enter Try.func53, Try.ntmps53
  go_wp2_with (first
    | (with_reducible refine Lex.wp_region_lex (by kernel_rfl) (by decide +kernel) ?_)
    | (with_reducible refine Lex.fin_on (by kernel_rfl) ?_)
    | (go_at_call 70; first
      | (with_reducible refine (hL1 _).mono ?_; rintro e w1 ⟨rfl, hb1⟩; have hg1 := hb0 hb1)
      | (with_reducible refine (hL3 _).mono ?_; rintro e w3 ⟨rfl, hb3⟩; have hg3 := (hb3.block _ (by have := Nat.le_trans hb1.size hbo.size; simp at this; omega)).trans hg2)
    )
    | (go_at_call 71; refine (hO _).mono ?_; rintro e wo ⟨rfl, hbo⟩; have hg2 := (hbo.block _ (by have := hb1.size; simp at this; omega)).trans hg1)
    | (with_reducible refine wpList_store_row rfl 44 (.tmp 2) (.tmp 37) rfl _ _ rfl rfl _ _ hg3 (by kernel_rfl) (by kernel_rfl) (by kernel_rfl) ?_))
  refine bodyPost_ret (results_cell_two rfl _ _ w.heap.size 44 _ (0, 0) _ rfl (setRow_heap _ _ _ _ _ _ hg3) rfl rfl (by kernel_rfl)) rfl ⟨?_, below_setRow ?_ (Nat.le_refl _) _⟩
  · exact ⟨_, _, _, rfl⟩
  · exact (((hb.alloc (Nat.le_refl _) _).trans (hb1.mono (by simp))).trans (hbo.mono (by have := hb1.size; simp at this; omega))).trans (hb3.mono (by have := Nat.le_trans hb1.size hbo.size; simp at this; omega))

set_option maxRecDepth 100000 in
set_option maxHeartbeats 8000000 in
theorem record_none4 (s : ByteArray) (hs : s.size ≤ 1048576) {body rest : ByteArray} (h1 : cutV s = some (body, rest)) (h2 : (openV body).2 = 0) {key o : ByteArray} (h3 : cutV (openV body).1 = some (key, o)) (h4 : cutV o = none) (w : World) :
    Calls Try.prog 53 #[.string s] w fun e w' => recR none e ∧ Below w.heap.size w w' := by
  have hL1 := cut_any s hs
  rw [h1] at hL1; simp only [cutR] at hL1
  have z1 := cutV_size h1
  have z2 := openV_size body
  have hO := open_any body (by omega)
  have hL3 := cut_any (openV body).1 (by omega)
  rw [h3] at hL3; simp only [cutR] at hL3
  rw [h2] at hO
  have z3 := cutV_size h3
  have hL4 := cut_any o (by omega)
  rw [h4] at hL4; simp only [cutR] at hL4
  generalize (openV body).1 = op at *
  have hb := Below.refl w.heap.size w
  have hg0 := heap_alloc_new w (.cells rec0 44)
  have hb0 : ∀ {w1}, Below (w.alloc (.cells rec0 44)).heap.size (w.alloc (.cells rec0 44)) w1 → w1.heap[w.heap.size]? = some (.cells rec0 44) := fun hb1 => (hb1.block _ (by simp)).trans hg0
  go_enter Try.func53, Try.ntmps53
  go_wp2_with (first
    | (with_reducible refine Lex.wp_region_lex (by kernel_rfl) (by decide +kernel) ?_)
    | (with_reducible refine Lex.fin_on (by kernel_rfl) ?_)
    | (go_at_call 70; first
      | (with_reducible refine (hL1 _).mono ?_; rintro e w1 ⟨rfl, hb1⟩; have hg1 := hb0 hb1)
      | (with_reducible refine (hL3 _).mono ?_; rintro e w3 ⟨rfl, hb3⟩; have hg3 := (hb3.block _ (by have := Nat.le_trans hb1.size hbo.size; simp at this; omega)).trans hg2)
      | (with_reducible refine (hL4 _).mono ?_; rintro e w4 ⟨rfl, hb4⟩; have hg4 := (hb4.block _ (by have := Nat.le_trans hb1.size (Nat.le_trans hbo.size hb3.size); simp at this; omega)).trans hg3)
    )
    | (go_at_call 71; refine (hO _).mono ?_; rintro e wo ⟨rfl, hbo⟩; have hg2 := (hbo.block _ (by have := hb1.size; simp at this; omega)).trans hg1)
    | (with_reducible refine wpList_store_row rfl 44 (.tmp 2) (.tmp 46) rfl _ _ rfl rfl _ _ hg4 (by kernel_rfl) (by kernel_rfl) (by kernel_rfl) ?_))
  refine bodyPost_ret (results_cell_two rfl _ _ w.heap.size 44 _ (0, 0) _ rfl (setRow_heap _ _ _ _ _ _ hg4) rfl rfl (by kernel_rfl)) rfl ⟨?_, below_setRow ?_ (Nat.le_refl _) _⟩
  · exact ⟨_, _, _, rfl⟩
  · exact ((((hb.alloc (Nat.le_refl _) _).trans (hb1.mono (by simp))).trans (hbo.mono (by have := hb1.size; simp at this; omega))).trans (hb3.mono (by have := Nat.le_trans hb1.size hbo.size; simp at this; omega))).trans (hb4.mono (by have := Nat.le_trans hb1.size (Nat.le_trans hbo.size hb3.size); simp at this; omega))

set_option maxRecDepth 100000 in
set_option maxHeartbeats 8000000 in
theorem record_none5 (s : ByteArray) (hs : s.size ≤ 1048576) {body rest : ByteArray} (h1 : cutV s = some (body, rest)) (h2 : (openV body).2 = 0) {key o : ByteArray} (h3 : cutV (openV body).1 = some (key, o)) {data o2 : ByteArray} (h4 : cutV o = some (data, o2)) (h5 : ¬ o2 = ⟨#[]⟩) (w : World) :
    Calls Try.prog 53 #[.string s] w fun e w' => recR none e ∧ Below w.heap.size w w' := by
  have hL1 := cut_any s hs
  rw [h1] at hL1; simp only [cutR] at hL1
  have z1 := cutV_size h1
  have z2 := openV_size body
  have hO := open_any body (by omega)
  have hL3 := cut_any (openV body).1 (by omega)
  rw [h3] at hL3; simp only [cutR] at hL3
  rw [h2] at hO
  have z3 := cutV_size h3
  have hL4 := cut_any o (by omega)
  rw [h4] at hL4; simp only [cutR] at hL4
  generalize (openV body).1 = op at *
  have hd := isEmpty_no h5
  clear h5
  have hb := Below.refl w.heap.size w
  have hg0 := heap_alloc_new w (.cells rec0 44)
  have hb0 : ∀ {w1}, Below (w.alloc (.cells rec0 44)).heap.size (w.alloc (.cells rec0 44)) w1 → w1.heap[w.heap.size]? = some (.cells rec0 44) := fun hb1 => (hb1.block _ (by simp)).trans hg0
  go_enter Try.func53, Try.ntmps53
  go_wp2_with (first
    | (with_reducible refine Lex.wp_region_lex (by kernel_rfl) (by decide +kernel) ?_)
    | (with_reducible refine Lex.fin_on (by kernel_rfl) ?_)
    | (go_at_call 70; first
      | (with_reducible refine (hL1 _).mono ?_; rintro e w1 ⟨rfl, hb1⟩; have hg1 := hb0 hb1)
      | (with_reducible refine (hL3 _).mono ?_; rintro e w3 ⟨rfl, hb3⟩; have hg3 := (hb3.block _ (by have := Nat.le_trans hb1.size hbo.size; simp at this; omega)).trans hg2)
      | (with_reducible refine (hL4 _).mono ?_; rintro e w4 ⟨rfl, hb4⟩; have hg4 := (hb4.block _ (by have := Nat.le_trans hb1.size (Nat.le_trans hbo.size hb3.size); simp at this; omega)).trans hg3)
    )
    | (go_at_call 71; refine (hO _).mono ?_; rintro e wo ⟨rfl, hbo⟩; have hg2 := (hbo.block _ (by have := hb1.size; simp at this; omega)).trans hg1)
    | (with_reducible refine wpList_store_row rfl 44 (.tmp 2) (.tmp 46) rfl _ _ rfl rfl _ _ hg4 (by kernel_rfl) (by kernel_rfl) (by kernel_rfl) ?_))
  refine bodyPost_ret (results_cell_two rfl _ _ w.heap.size 44 _ (0, 0) _ rfl (setRow_heap _ _ _ _ _ _ hg4) rfl rfl (by kernel_rfl)) rfl ⟨?_, below_setRow ?_ (Nat.le_refl _) _⟩
  · exact ⟨_, _, _, rfl⟩
  · exact ((((hb.alloc (Nat.le_refl _) _).trans (hb1.mono (by simp))).trans (hbo.mono (by have := hb1.size; simp at this; omega))).trans (hb3.mono (by have := Nat.le_trans hb1.size hbo.size; simp at this; omega))).trans (hb4.mono (by have := Nat.le_trans hb1.size (Nat.le_trans hbo.size hb3.size); simp at this; omega))

set_option maxRecDepth 100000 in
set_option maxHeartbeats 8000000 in
theorem record_some (s : ByteArray) (hs : s.size ≤ 1048576) {body rest : ByteArray} (h1 : cutV s = some (body, rest)) (h2 : (openV body).2 = 0) {key o : ByteArray} (h3 : cutV (openV body).1 = some (key, o)) {data o2 : ByteArray} (h4 : cutV o = some (data, o2)) (h5 : o2 = ⟨#[]⟩) (w : World) :
    Calls Try.prog 53 #[.string s] w fun e w' => recR (some ((key, data), rest)) e ∧ Below w.heap.size w w' := by
  have hL1 := cut_any s hs
  rw [h1] at hL1; simp only [cutR] at hL1
  have z1 := cutV_size h1
  have z2 := openV_size body
  have hO := open_any body (by omega)
  have hL3 := cut_any (openV body).1 (by omega)
  rw [h3] at hL3; simp only [cutR] at hL3
  rw [h2] at hO
  have z3 := cutV_size h3
  have hL4 := cut_any o (by omega)
  rw [h4] at hL4; simp only [cutR] at hL4
  generalize (openV body).1 = op at *
  have hd := isEmpty_yes h5
  clear h5
  have hb := Below.refl w.heap.size w
  have hg0 := heap_alloc_new w (.cells rec0 44)
  have hb0 : ∀ {w1}, Below (w.alloc (.cells rec0 44)).heap.size (w.alloc (.cells rec0 44)) w1 → w1.heap[w.heap.size]? = some (.cells rec0 44) := fun hb1 => (hb1.block _ (by simp)).trans hg0
  go_enter Try.func53, Try.ntmps53
  go_wp2_with (first
    | (with_reducible refine Lex.wp_region_lex (by kernel_rfl) (by decide +kernel) ?_)
    | (with_reducible refine Lex.fin_on (by kernel_rfl) ?_)
    | (go_at_call 70; first
      | (with_reducible refine (hL1 _).mono ?_; rintro e w1 ⟨rfl, hb1⟩; have hg1 := hb0 hb1)
      | (with_reducible refine (hL3 _).mono ?_; rintro e w3 ⟨rfl, hb3⟩; have hg3 := (hb3.block _ (by have := Nat.le_trans hb1.size hbo.size; simp at this; omega)).trans hg2)
      | (with_reducible refine (hL4 _).mono ?_; rintro e w4 ⟨rfl, hb4⟩; have hg4 := (hb4.block _ (by have := Nat.le_trans hb1.size (Nat.le_trans hbo.size hb3.size); simp at this; omega)).trans hg3)
    )
    | (go_at_call 71; refine (hO _).mono ?_; rintro e wo ⟨rfl, hbo⟩; have hg2 := (hbo.block _ (by have := hb1.size; simp at this; omega)).trans hg1)
    | (with_reducible refine wpList_store_row rfl 44 (.tmp 2) (.tmp 46) rfl _ _ rfl rfl _ _ hg4 (by kernel_rfl) (by kernel_rfl) (by kernel_rfl) ?_))
  refine bodyPost_ret (results_cell_two rfl _ _ w.heap.size 44 _ (0, 0) _ rfl (setRow_heap _ _ _ _ _ _ hg4) rfl rfl (by kernel_rfl)) rfl ⟨?_, below_setRow ?_ (Nat.le_refl _) _⟩
  · exact rfl
  · exact ((((hb.alloc (Nat.le_refl _) _).trans (hb1.mono (by simp))).trans (hbo.mono (by have := hb1.size; simp at this; omega))).trans (hb3.mono (by have := Nat.le_trans hb1.size hbo.size; simp at this; omega))).trans (hb4.mono (by have := Nat.le_trans hb1.size (Nat.le_trans hbo.size hb3.size); simp at this; omega))

theorem record_any (s : ByteArray) (hs : s.size ≤ 1048576) (w : World) :
    Calls Try.prog 53 #[.string s] w fun e w' => recR (recV s) e ∧ Below w.heap.size w w' := by
  rcases h1 : cutV s with _ | ⟨body, rest⟩
  · have e : recV s = none := by simp only [recV, h1]
    rw [e]; exact record_none1 s hs h1 w
  · by_cases h2 : (openV body).2 = 0
    · rcases h3 : cutV (openV body).1 with _ | ⟨key, o⟩
      · have e : recV s = none := by simp only [recV, h1, h2, h3, if_true]
        rw [e]; exact record_none3 s hs h1 h2 h3 w
      · rcases h4 : cutV o with _ | ⟨data, o2⟩
        · have e : recV s = none := by simp only [recV, h1, h2, h3, h4, if_true]
          rw [e]; exact record_none4 s hs h1 h2 h3 h4 w
        · by_cases h5 : o2 = ⟨#[]⟩
          · have e : recV s = some ((key, data), rest) := by simp only [recV, h1, h2, h3, h4, h5, if_true]
            rw [e]; exact record_some s hs h1 h2 h3 h4 h5 w
          · have e : recV s = none := by simp only [recV, h1, h2, h3, h4, if_true]; rw [if_neg h5]
            rw [e]; exact record_none5 s hs h1 h2 h3 h4 h5 w
    · have e : recV s = none := by simp only [recV, h1]; rw [if_neg h2]
      rw [e]; exact record_none2 s hs h1 h2 w
end Go.Proofs.Ytmflngpgmmgohaa
