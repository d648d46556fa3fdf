/-
  Slices that may be read, by their cells; appends to them.
-/
import Derived.Deep.AppendSrc
import Derived.Test.YteejlibiidiibaaB0
import Derived.Test.YteejlibiidiibaaA0
namespace Go.Proofs.Yteejlibiidiibaa
open Go.RowKit
set_option maxRecDepth 100000

theorem add_none (b o i : Nat) : (⟨b, o, none⟩ : Addr).add i = ⟨b, o + i, none⟩ := by
  unfold Addr.add
  split
  · rename_i h; subst h; rfl
  · rfl
/-- The slice at A with n elements has the cells cs. -/
def RC (w : World) (size : Nat) (A : Option Addr) (n : Nat) (cs : List Value) : Prop :=
  cs.length = n * size ∧ (0 < n → ∃ a o, A = some ⟨a, o, none⟩ ∧ a < w.heap.size ∧ ∀ (j : Nat) (u : Value), cs[j]? = some u → w.cell? ⟨a, o + j, none⟩ = some u)
theorem RC.nil (w : World) (size : Nat) (A : Option Addr) : RC w size A 0 [] := ⟨by simp, fun h => by omega⟩
theorem RC.below {w w' : World} {size n : Nat} {A : Option Addr} {cs : List Value} (h : RC w size A n cs) (hb : Below w.heap.size w w') : RC w' size A n cs :=
  ⟨h.1, fun hn => by
    obtain ⟨a, o, h1, h2, h3⟩ := h.2 hn
    exact ⟨a, o, h1, Nat.lt_of_lt_of_le h2 hb.size, fun j u hu => (hb.cell (p := ⟨a, _, none⟩) h2).trans (h3 j u hu)⟩⟩
theorem RC.fr {w w' : World} {size n : Nat} {A : Option Addr} {cs : List Value} (h : RC w size A n cs) (hs : w.heap.size ≤ w'.heap.size) (hb : ∀ a o, A = some ⟨a, o, none⟩ → 0 < n → w'.heap[a]? = w.heap[a]?) : RC w' size A n cs :=
  ⟨h.1, fun hn => by
    obtain ⟨a, o, h1, h2, h3⟩ := h.2 hn
    exact ⟨a, o, h1, Nat.lt_of_lt_of_le h2 hs, fun j u hu => (cell_at (hb a o h1 hn)).trans (h3 j u hu)⟩⟩
theorem RC.row {w : World} {size n g : Nat} {e : TypeId} {cs : List Value} {arr : Array Value} (hl : cs.length = n * size) (hg : w.heap[g]? = some (.cells arr e)) (h : ∀ (j : Nat) (u : Value), cs[j]? = some u → arr[j]? = some u) : RC w size (some ⟨g, 0, none⟩) n cs :=
  ⟨hl, fun _ => ⟨g, 0, rfl, heap_lt hg, fun j u hu => by simp [World.cell?, hg, h j u hu]⟩⟩
theorem RC.of_own {w : World} {B n size cap : Nat} {e : TypeId} {p : Option Addr} {xs : List Value} (h : w.ownsRow B e size (.slice p n cap) n xs) : RC w size p n xs := by
  refine ⟨h.1, fun hn => ?_⟩
  obtain ⟨g, rfl⟩ := own_ptr h hn
  refine ⟨g, 0, rfl, (h.lt g rfl).2, fun j u hu => ?_⟩
  have := h.cells (g := g) rfl j u hu
  rw [show (⟨g, 0, none⟩ : Addr).add j = ⟨g, 0 + j, none⟩ from add_none g 0 j] at this
  exact this

/-- So, in a block of elements of type e. -/
def RT (w : World) (e : TypeId) (size : Nat) (A : Option Addr) (n : Nat) (cs : List Value) : Prop :=
  cs.length = n * size ∧ (0 < n → ∃ (a o : Nat) (arr : Array Value), A = some ⟨a, o, none⟩ ∧ w.heap[a]? = some (.cells arr e) ∧ ∀ (j : Nat) (u : Value), cs[j]? = some u → arr[o + j]? = some u)
theorem RT.nil (w : World) (e : TypeId) (size : Nat) (A : Option Addr) : RT w e size A 0 [] := ⟨by simp, fun h => by omega⟩
theorem RT.rc {w : World} {e : TypeId} {size n : Nat} {A : Option Addr} {cs : List Value} (h : RT w e size A n cs) : RC w size A n cs :=
  ⟨h.1, fun hn => by
    obtain ⟨a, o, arr, h1, h2, h3⟩ := h.2 hn
    exact ⟨a, o, h1, heap_lt h2, fun j u hu => by simp [World.cell?, h2, h3 j u hu]⟩⟩
theorem RT.keep {w w' : World} {e : TypeId} {size n : Nat} {A : Option Addr} {cs : List Value} (h : RT w e size A n cs) (hb : ∀ (a : Nat) (arr : Array Value), w.heap[a]? = some (.cells arr e) → w'.heap[a]? = w.heap[a]?) : RT w' e size A n cs :=
  ⟨h.1, fun hn => by
    obtain ⟨a, o, arr, h1, h2, h3⟩ := h.2 hn
    exact ⟨a, o, arr, h1, (hb a arr h2).trans h2, h3⟩⟩
theorem RT.below {w w' : World} {e : TypeId} {size n : Nat} {A : Option Addr} {cs : List Value} (h : RT w e size A n cs) (hb : Below w.heap.size w w') : RT w' e size A n cs := h.keep fun a arr ha => hb.block a (heap_lt ha)
theorem src_rc {P : Program} {size : Nat} {t e : TypeId} (ht : P.underlying t = some (.slice e)) {w : World} {A : Option Addr} {m c : Nat} {news : List Value} (h : RC w size A m news) (h1 : ∀ u ∈ news, u.oneCell' = true) : Src P size t (.slice A m c) m news w := by
  cases A with
  | none =>
    have hm : m = 0 := by
      rcases Nat.eq_zero_or_pos m with h0 | h0
      · exact h0
      · obtain ⟨a, o, e1, _⟩ := h.2 h0; cases e1
    subst hm
    have hl : news = [] := List.length_eq_zero_iff.1 (by have := h.1; omega)
    subst hl
    exact Src.ofNil w ht c
  | some ad =>
    refine Src.ofSlice w ht ad m c news h.1 ?_ h1
    intro j u hu
    have h0 : 0 < m := by
      rcases Nat.eq_zero_or_pos m with h0 | h0
      · have := h.1; rw [h0, Nat.zero_mul] at this
        rw [List.getElem?_eq_none (by omega)] at hu; cases hu
      · exact h0
    obtain ⟨a, o, e1, _, h3⟩ := h.2 h0
    cases e1
    rw [add_none]
    exact h3 j u hu
theorem rc_first {P : Program} {size n c : Nat} {w : World} {A : Option Addr} {olds : List Value} (h : RC w size A n olds) : (Builtin.firstCells size n (.slice A n c)).run P w.drew = .ok olds.toArray w.drew := by
  cases A with
  | none =>
    have hm : n = 0 := by
      rcases Nat.eq_zero_or_pos n with h0 | h0
      · exact h0
      · obtain ⟨a, o, e1, _⟩ := h.2 h0; cases e1
    subst hm
    have hl : olds = [] := List.length_eq_zero_iff.1 (by have := h.1; omega)
    subst hl
    exact run_firstCells_none _ _ _ _ _
  | some ad =>
    refine run_firstCells_some w.drew size n ad n c olds h.1 fun j u hu => ?_
    have h0 : 0 < n := by
      rcases Nat.eq_zero_or_pos n with h0 | h0
      · have := h.1; rw [h0, Nat.zero_mul] at this
        rw [List.getElem?_eq_none (by omega)] at hu; cases hu
      · exact h0
    obtain ⟨a, o, e1, _, h3⟩ := h.2 h0
    cases e1
    rw [add_none]
    exact h3 j u hu
/-- Nothing is appended. -/
theorem run_append_zero {P : Program} (w : World) (t tx ty e : TypeId) (i : TypeInfo) (ht : P.underlying t = some (.slice e)) (hi : P.info? e = some i) (A : Option Addr) (n c : Nat) (hnc : n ≤ c) (x : Value) (hs : Src P i.size tx x 0 [] w) :
    (Builtin.append_ #[t, tx] ty #[.slice A n c, x]).run P w = .ok (.slice A n c) w := by
  have h1 := hs.cells
  cases A <;> rcases hs.kind with ⟨e', hk⟩ | hk <;> simp [Builtin.append_, run_underlying ht, run_underlying hk, sizeOf, typeInfo, hi, hs.len, hnc, h1, storeCells]
/-- 'append(s, x...)' where s is full. -/
theorem wpList_append_rc {P : Program} {ops : Array Oper} {rest : List Oper} {o : Oper} {a : Act} {Q : Exit → Act → World → Prop} (hgd : o.guard = none) (s x : Operand) (t : TypeId)
    (ho : o.op = .call { callee := .builtin .append, args := #[s, x], argTypes := #[t, t] }) (e : TypeId) (ht : P.underlying t = some (.slice e)) {z : Value} {size bytes : Nat}
    (hinfo : (P.info? e).map (fun i => (i.zero, i.size, i.bytes)) = some (some z, size, bytes)) (hby : bytes ≤ 1048576)
    (wx : World) (A A2 : Option Addr) (n m c c2 : Nat) (olds news : List Value) (hs : a.eval s = .slice A n c) (hx : a.eval x = .slice A2 m c2) (h1 : RC wx size A n olds) (h2 : RC wx size A2 m news) (hone : ∀ u ∈ news, u.oneCell' = true)
    (hnc : n ≤ c) (hfull : m = 0 ∨ c < n + m) (hbound : n + m ≤ 67108864)
    (h : ∀ A' c' w', RC w' size A' (n + m) (olds ++ news) → (RT wx e size A n olds → RT w' e size A' (n + m) (olds ++ news)) → n + m ≤ c' → Below wx.heap.size wx w' → wpList P ops Q rest (a.put o.dst (.slice A' (n + m) c')) w') :
    wpList P ops Q (o :: rest) a wx := by
  obtain ⟨i, hi, hz, rfl, rfl⟩ := info_parts hinfo
  refine wpList_plain hgd fun K hK => ?_
  by_cases hm : m = 0
  · subst hm
    have hl : news = [] := List.length_eq_zero_iff.1 (by have := h2.1; omega)
    subst hl
    have hr := run_append_zero (P := P) wx t t o.type e i ht hi A n c hnc _ (src_rc (c := c2) ht h2 hone)
    unfold Oper.wp execOp
    simp only [ho, resolve, invoke, builtin, Sem.run_bind, Sem.run_pure, Result.andThen_ok, List.map_toArray, List.map_cons, List.map_nil, hs, hx, hr]
    exact hK _ _ (h A c wx (by simpa using h1) (fun x => by simpa using x) (by omega) (Below.refl _ _))
  · have hg : c < n + m := by omega
    have hmb : (n + m) * i.bytes ≤ 140737488355328 := Nat.le_trans (Nat.mul_le_mul hbound hby) (by decide)
    have hr := run_append_grow_src (P := P) wx t t o.type e i z ht hi hz A n c olds (rc_first h1) (.slice A2 m c2) m news (src_rc ht h2 hone) hg (by omega) (growslice_fits hg hmb)
    unfold Oper.wp execOp
    simp only [ho, resolve, invoke, builtin, Sem.run_bind, Sem.run_pure, Result.andThen_ok, List.map_toArray, List.map_cons, List.map_nil, hs, hx, hr]
    have harr : ∀ (j : Nat) (u : Value), (olds ++ news)[j]? = some u → ((olds ++ news).toArray ++ Builtin.zeroCells z.cells (grownCap wx (n + m) c e - (n + m)))[j]? = some u := fun j u hu => by
      have hj := (List.getElem?_eq_some_iff.1 hu).1
      rw [Array.getElem?_append_left (by simpa using hj)]
      simpa using hu
    have hlen : (olds ++ news).length = (n + m) * i.size := by rw [List.length_append, h1.1, h2.1, Nat.add_mul]
    refine hK _ _ (h _ _ _ ?_ ?_ ?_ ?_)
    · exact RC.row (e := e) hlen (heap_alloc_new wx.drew _) harr
    · exact fun _ => ⟨hlen, fun _ => ⟨wx.heap.size, 0, _, rfl, heap_alloc_new wx.drew _, fun j u hu => by rw [Nat.zero_add]; exact harr j u hu⟩⟩
    · exact grownCap_ge _ _ _ _
    · exact (Below.refl _ _).drew.alloc (by simp) _
/-- 'append(s, x...)' where s is the call's own. -/
theorem wpList_append_ownrc {P : Program} {ops : Array Oper} {rest : List Oper} {o : Oper} {a : Act} {Q : Exit → Act → World → Prop} (hgd : o.guard = none) (s x : Operand) (t : TypeId)
    (ho : o.op = .call { callee := .builtin .append, args := #[s, x], argTypes := #[t, t] }) (e : TypeId) (ht : P.underlying t = some (.slice e)) {z : Value} {size bytes : Nat}
    (hinfo : (P.info? e).map (fun i => (i.zero, i.size, i.bytes)) = some (some z, size, bytes)) (hzs : z.cells.size = size) (hsz : 0 < size) (hby : bytes ≤ 1048576)
    (B : Nat) (wx : World) (A2 : Option Addr) (n m c2 : Nat) (xs news : List Value) (hB : B ≤ wx.heap.size) (v : Value) (hs : a.eval s = v) (hx : a.eval x = .slice A2 m c2) (hown : wx.ownsRow B e size v n xs) (h2 : RC wx size A2 m news) (hone : ∀ u ∈ news, u.oneCell' = true)
    (hbound : n + m ≤ 67108864)
    (h : ∀ v' w', w'.ownsRow B e size v' (n + m) (xs ++ news) → Fr [] v v' wx w' → wpList P ops Q rest (a.put o.dst v') w') :
    wpList P ops Q (o :: rest) a wx := by
  obtain ⟨i, hi, hz, rfl, rfl⟩ := info_parts hinfo
  refine wpList_plain hgd fun K hK => ?_
  by_cases hm : m = 0
  · subst hm
    have hl : news = [] := List.length_eq_zero_iff.1 (by have := h2.1; omega)
    subst hl
    obtain ⟨p, cap, rfl⟩ := own_slice hown
    have hnc : n ≤ cap := by
      rcases hown.2 with ⟨e1, h0⟩ | ⟨g, cap', cur, e1, _, _, h3, _⟩
      · omega
      · cases e1; exact h3
    have hr := run_append_zero (P := P) wx t t o.type e i ht hi p n cap hnc _ (src_rc (c := c2) ht h2 hone)
    unfold Oper.wp execOp
    simp only [ho, resolve, invoke, builtin, Sem.run_bind, Sem.run_pure, Result.andThen_ok, List.map_toArray, List.map_cons, List.map_nil, hs, hx, hr]
    exact hK _ _ (h _ wx (by simpa using hown) (Fr.refl _ _ _))
  · obtain ⟨b, off, rfl, hb, hcell⟩ := h2.2 (by omega)
    have hc : ∀ (j : Nat) (u : Value), news[j]? = some u → wx.cell? ((⟨b, off, none⟩ : Addr).add j) = some u := fun j u hu => by rw [add_none]; exact hcell j u hu
    have hmb : (n + m) * i.bytes ≤ 140737488355328 := Nat.le_trans (Nat.mul_le_mul hbound hby) (by decide)
    obtain ⟨v', w', hr, h3, h4, _⟩ := run_append_own (P := P) wx B t o.type e i z i.size i.bytes ht hi hz rfl rfl hzs hsz v n xs hown ⟨b, off, none⟩ m c2 news h2.1 hc hone (by unfold maxLen; omega) hmb hB
    have hw : v'.ownBlock = v.ownBlock ∨ ∀ g, v'.ownBlock = some g → wx.heap.size ≤ g := append_where (P := P) wx B t o.type e i z ht hi hz v n xs hown ⟨b, off, none⟩ m c2 news h2.1 hc hone (by omega) (by unfold maxLen; omega) hmb hr
    unfold Oper.wp execOp
    simp only [ho, resolve, invoke, builtin, Sem.run_bind, Sem.run_pure, Result.andThen_ok, List.map_toArray, List.map_cons, List.map_nil, hs, hx, hr]
    exact hK _ _ (h v' w' h3 (Fr.of_grown h4 hw))

/-! ### Slices of integers, paths -/
def ic (xs : List Int) : List Value := xs.map fun x => .int .i64 x
theorem ic_len (xs : List Int) : (ic xs).length = xs.length := by simp [ic]
theorem ic_one (xs : List Int) : ∀ u ∈ ic xs, u.oneCell' = true := fun u hu => by
  obtain ⟨x, _, rfl⟩ := List.mem_map.1 hu; rfl
/-- A slice of integers. -/
def IS (w : World) (v : Value) (xs : List Int) : Prop := ∃ p c, v = .slice p xs.length c ∧ xs.length ≤ c ∧ RC w 1 p xs.length (ic xs)
theorem IS.below {w w' : World} {v : Value} {xs : List Int} (h : IS w v xs) (hb : Below w.heap.size w w') : IS w' v xs := by
  obtain ⟨p, c, h1, h2, h3⟩ := h; exact ⟨p, c, h1, h2, h3.below hb⟩
theorem IS.nil (w : World) : IS w (.slice none 0 0) [] := ⟨none, 0, rfl, by simp, RC.nil _ _ _⟩
theorem IS.at {w : World} {p : Option Addr} {n c : Nat} {xs : List Int} (h : IS w (.slice p n c) xs) {k : Nat} (hk : k < xs.length) : n = xs.length ∧ ∃ a o, p = some ⟨a, o, none⟩ ∧ a < w.heap.size ∧ w.cell? ⟨a, o + k, none⟩ = some (.int .i64 xs[k]) := by
  obtain ⟨p', c', h1, h2, h3⟩ := h
  simp only [Value.slice.injEq] at h1
  obtain ⟨rfl, rfl, rfl⟩ := h1
  obtain ⟨a, o, e1, e2, e3⟩ := h3.2 (by omega)
  exact ⟨rfl, a, o, e1, e2, e3 k _ (by simp [ic, hk])⟩
/-- A slice of integers in a row of integers. -/
def I3 (w : World) (v : Value) (xs : List Int) : Prop := ∃ p c, v = .slice p xs.length c ∧ xs.length ≤ c ∧ RT w 3 1 p xs.length (ic xs)
theorem I3.is {w : World} {v : Value} {xs : List Int} (h : I3 w v xs) : IS w v xs := by obtain ⟨p, c, h1, h2, h3⟩ := h; exact ⟨p, c, h1, h2, h3.rc⟩
theorem I3.keep {w w' : World} {v : Value} {xs : List Int} (h : I3 w v xs) (hb : ∀ (a : Nat) (arr : Array Value), w.heap[a]? = some (.cells arr 3) → w'.heap[a]? = w.heap[a]?) : I3 w' v xs := by obtain ⟨p, c, h1, h2, h3⟩ := h; exact ⟨p, c, h1, h2, h3.keep hb⟩
theorem I3.below {w w' : World} {v : Value} {xs : List Int} (h : I3 w v xs) (hb : Below w.heap.size w w') : I3 w' v xs := h.keep fun a arr ha => hb.block a (heap_lt ha)
theorem I3.nil (w : World) : I3 w (.slice none 0 0) [] := ⟨none, 0, rfl, by simp, RT.nil _ _ _ _⟩
theorem own_ne' {w : World} {B n b size : Nat} {e : TypeId} {v : Value} {xs : List Value} {cs : Array Value} {t : TypeId} {fr : Nat × Nat} (h : w.ownsRow B e size v n xs) (hb : w.heap[b]? = some (.cells cs t fr)) (ht : t ≠ e) : v.ownBlock ≠ some b := fun e1 => by
  rcases h.2 with ⟨rfl, _⟩ | ⟨g, cap, cur, rfl, h4, h5, _⟩
  · cases e1
  · cases e1; rw [h5] at hb; simp at hb; exact ht hb.2.1.symm
end Go.Proofs.Yteejlibiidiibaa
