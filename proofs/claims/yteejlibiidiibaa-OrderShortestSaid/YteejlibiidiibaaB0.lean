/-
  Blocks that turn, frames, maps with numbers in them, rows of nodes.
-/
import Derived.Test.YteejlibiidiibaaRows
import Derived.WalkKit
import Derived.WalkLawsBesides
import Derived.WalkSpells
import Derived.Deep.QuietTactic
import Derived.BigQuiet
import Derived.Lib.Hide
import Derived.Deep.DeepFit
import Derived.DeepKeys4
import Derived.Maps.OwnOps
import Derived.Maps.OwnSet
import Derived.Laws.Tables
import Derived.Laws.Rows
import Derived.Laws.AppendOwn
import Derived.Laws.AppendOwnNone
import Derived.OwnWalk
import Derived.Deep.DeepCutAuto
import Derived.Laws.EntriesVeiled
import Derived.Test.YteejlibiidiibaaGuard
namespace Go.Proofs.Yteejlibiidiibaa
open Go.RowKit

/-- Block b, and no other one, has turned. -/
structure Upd (b : Nat) (o : Obj) (w w' : World) : Prop where
  os : w'.os = w.os
  tape : w'.tape = w.tape
  output : w'.output = w.output
  size : w'.heap.size = w.heap.size
  blk : w'.heap[b]? = some o
  other : ∀ k, k ≠ b → w'.heap[k]? = w.heap[k]?
theorem Upd.trans {b : Nat} {o o' : Obj} {w w1 w2 : World} (h : Upd b o w w1) (k : Upd b o' w1 w2) : Upd b o' w w2 :=
  ⟨k.os.trans h.os, k.tape.trans h.tape, k.output.trans h.output, k.size.trans h.size, k.blk, fun i hi => (k.other i hi).trans (h.other i hi)⟩
theorem Upd.refl {b : Nat} {o : Obj} {w : World} (h : w.heap[b]? = some o) : Upd b o w w := ⟨rfl, rfl, rfl, rfl, h, fun _ _ => rfl⟩
theorem Upd.drew {b : Nat} {o : Obj} {w w1 : World} (h : Upd b o w w1) : Upd b o w w1.drew := ⟨h.os, h.tape, h.output, h.size, h.blk, h.other⟩
theorem Upd.set {b i : Nat} {v : Value} {c : Array Value} {t : TypeId} {fr : Nat × Nat} {w w1 : World} (h : Upd b (.cells c t fr) w w1) : Upd b (.cells (c.setIfInBounds i v) t fr) w (w1.setCell ⟨b, i, none⟩ v) := by
  refine h.trans ⟨rfl, rfl, rfl, by simp [World.setCell], ?_, ?_⟩
  · simp [World.setCell, Array.getElem?_modify, h.blk]
  · intro k hk
    simp only [World.setCell, Array.getElem?_modify]
    rw [if_neg (by omega)]
theorem Upd.cast {b : Nat} {o o' : Obj} {w w' : World} (h : Upd b o w w') (e : o = o') : Upd b o' w w' := e ▸ h
theorem Upd.below {b B : Nat} {o : Obj} {w w' : World} (h : Upd b o w w') (hB : B ≤ b) : Below B w w' :=
  ⟨h.os, h.tape, h.output, by rw [h.size]; exact Nat.le_refl _, fun k hk => h.other k (by omega)⟩
theorem _root_.Go.RowKit.Below.step {w b c : World} (h : Below w.heap.size w b) (k : Below b.heap.size b c) : Below w.heap.size w c := h.trans (k.mono h.size)
theorem heap_lt {w : World} {b : Nat} {o : Obj} (h : w.heap[b]? = some o) : b < w.heap.size := (Array.getElem?_eq_some_iff.1 h).1

/-- What has turned: the blocks of S, the row that v had; v' stands in that row or in a new one. -/
structure Fr (S : List Nat) (v v' : Value) (w w' : World) : Prop where
  os : w'.os = w.os
  tape : w'.tape = w.tape
  output : w'.output = w.output
  size : w.heap.size ≤ w'.heap.size
  block : ∀ k, k < w.heap.size → k ∉ S → v.ownBlock ≠ some k → w'.heap[k]? = w.heap[k]?
  own : v'.ownBlock = v.ownBlock ∨ ∀ g, v'.ownBlock = some g → w.heap.size ≤ g
theorem Fr.refl (S : List Nat) (v : Value) (w : World) : Fr S v v w w := ⟨rfl, rfl, rfl, Nat.le_refl _, fun _ _ _ _ => rfl, .inl rfl⟩
theorem Fr.trans {S : List Nat} {v v1 v2 : Value} {w w1 w2 : World} (h : Fr S v v1 w w1) (k : Fr S v1 v2 w1 w2) : Fr S v v2 w w2 := by
  refine ⟨k.os.trans h.os, k.tape.trans h.tape, k.output.trans h.output, Nat.le_trans h.size k.size, ?_, ?_⟩
  · intro i hi hS hv
    refine (k.block i (Nat.lt_of_lt_of_le hi h.size) hS ?_).trans (h.block i hi hS hv)
    rcases h.own with e | e
    · rw [e]; exact hv
    · intro e2; have := e i e2; omega
  · rcases k.own with e | e
    · rw [e]; exact h.own
    · exact .inr fun g hg => Nat.le_trans h.size (e g hg)
theorem Fr.of_below {S : List Nat} {v : Value} {w w' : World} (h : Below w.heap.size w w') : Fr S v v w w' := ⟨h.os, h.tape, h.output, h.size, fun i hi _ _ => h.block i hi, .inl rfl⟩
theorem Fr.of_upd {S : List Nat} {v : Value} {b : Nat} {o : Obj} {w w' : World} (h : Upd b o w w') (hb : b ∈ S) : Fr S v v w w' :=
  ⟨h.os, h.tape, h.output, by rw [h.size]; exact Nat.le_refl _, fun i _ hn _ => h.other i fun e => hn (e ▸ hb), .inl rfl⟩
theorem Fr.of_turned {S : List Nat} {v : Value} {b : Nat} {w w' : World} (h : w.mapTurned w' b) (hb : b ∈ S) : Fr S v v w w' :=
  ⟨h.grown.os, h.grown.tape, h.grown.output, h.grown.size, fun i hi hn _ => h.grown.block i hi fun e => hn (by cases e; exact hb), .inl rfl⟩
theorem Fr.of_grown {S : List Nat} {v v' : Value} {w w' : World} (h : w.grownBy w' v.ownBlock) (ho : v'.ownBlock = v.ownBlock ∨ ∀ g, v'.ownBlock = some g → w.heap.size ≤ g) : Fr S v v' w w' :=
  ⟨h.os, h.tape, h.output, h.size, fun i hi _ hv => h.block i hi fun e => hv e.symm, ho⟩
theorem Fr.drew {S : List Nat} {v v' : Value} {w w' : World} (h : Fr S v v' w w') : Fr S v v' w w'.drew := ⟨h.os, h.tape, h.output, h.size, h.block, h.own⟩
theorem Fr.drew0 {S : List Nat} {v v' : Value} {w w' : World} (h : Fr S v v' w.drew w') : Fr S v v' w w' := ⟨h.os, h.tape, h.output, h.size, h.block, h.own⟩
theorem Fr.mono {S T : List Nat} {v v' : Value} {w w' : World} (h : Fr S v v' w w') (hs : ∀ x ∈ S, x ∈ T) : Fr T v v' w w' := ⟨h.os, h.tape, h.output, h.size, fun i hi hn => h.block i hi fun hx => hn (hs _ hx), h.own⟩
theorem Fr.below {S : List Nat} {B : Nat} {v v' : Value} {w w' : World} (h : Fr S v v' w w') (hB : B ≤ w.heap.size) (hS : ∀ x ∈ S, B ≤ x) (hv : ∀ g, v.ownBlock = some g → B ≤ g) : Below B w w' :=
  ⟨h.os, h.tape, h.output, h.size, fun i hi => h.block i (by omega) (fun hx => by have := hS _ hx; omega) fun e => by have := hv _ e; omega⟩
theorem Fr.own_ge {S : List Nat} {B : Nat} {v v' : Value} {w w' : World} (h : Fr S v v' w w') (hB : B ≤ w.heap.size) (hv : ∀ g, v.ownBlock = some g → B ≤ g) : ∀ g, v'.ownBlock = some g → B ≤ g := by
  intro g hg
  rcases h.own with e | e
  · exact hv g (e ▸ hg)
  · exact Nat.le_trans hB (e g hg)
theorem cell_at {w w' : World} {b i : Nat} (h : w'.heap[b]? = w.heap[b]?) : w'.cell? ⟨b, i, none⟩ = w.cell? ⟨b, i, none⟩ := by simp [World.cell?, h]
theorem ext_fr {Kp : Nat → Prop} {S : List Nat} {v v' : Value} {w w' : World} (h : Fr S v v' w w') (hS : ∀ x ∈ S, ¬ Kp x) (hv : ∀ g, v.ownBlock = some g → ¬ Kp g) : LexK.Ext Kp w w' :=
  ⟨h.size, fun b hb hk => h.block b hb (fun hx => hS _ hx hk) fun e => hv _ e hk⟩
theorem ext_b {n B : Nat} {w w' : World} (h : Below B w w') (hn : n < B) : LexK.Ext (fun x => x = n) w w' := ⟨h.size, fun i _ hi => h.block i (by subst hi; exact hn)⟩
theorem ext_upd {Kp : Nat → Prop} {b : Nat} {o : Obj} {w w' : World} (h : Upd b o w w') (hn : ¬ Kp b) : LexK.Ext Kp w w' := ⟨by rw [h.size]; exact Nat.le_refl _, fun i _ hi => h.other i fun e => hn (e ▸ hi)⟩

/-! ### Rows -/
theorem ownsRow_below {B : Nat} {w w1 : World} {b : Nat} {e : TypeId} {size n : Nat} {v : Value} {xs : List Value} (h : w.ownsRow b e size v n xs) (hB : Below B w w1) (hw : w.heap.size ≤ B) : w1.ownsRow b e size v n xs := by
  refine ⟨h.1, ?_⟩
  rcases h.2 with h2 | ⟨g, cap, cur, h3, h4, h5, h6⟩
  · exact .inl h2
  · refine .inr ⟨g, cap, cur, h3, h4, ?_, h6⟩
    have := heap_lt h5
    rw [hB.block g (by omega)]; exact h5
theorem ownsRow_at {w w' : World} {B n : Nat} {e : TypeId} {size : Nat} {v : Value} {xs : List Value} (h : w.ownsRow B e size v n xs) (hb : ∀ g, v.ownBlock = some g → w'.heap[g]? = w.heap[g]?) : w'.ownsRow B e size v n xs := by
  refine ⟨h.1, ?_⟩
  rcases h.2 with h2 | ⟨g, cap, cur, rfl, h4, h5, h6⟩
  · exact .inl h2
  · exact .inr ⟨g, cap, cur, rfl, h4, (hb g rfl).trans h5, h6⟩
theorem ownsRow_lower {w : World} {B B' n : Nat} {e : TypeId} {size : Nat} {v : Value} {xs : List Value} (h : w.ownsRow B e size v n xs) (hB : B' ≤ B) : w.ownsRow B' e size v n xs := by
  refine ⟨h.1, ?_⟩
  rcases h.2 with h2 | ⟨g, cap, cur, h3, h4, h5⟩
  · exact .inl h2
  · exact .inr ⟨g, cap, cur, h3, Nat.le_trans hB h4, h5⟩
theorem own_slice {w : World} {B n : Nat} {e : TypeId} {size : Nat} {v : Value} {xs : List Value} (h : w.ownsRow B e size v n xs) : ∃ p cap, v = .slice p n cap := by
  rcases h.2 with ⟨rfl, h0⟩ | ⟨g, cap, cur, rfl, _⟩
  · exact ⟨none, 0, by rw [h0]⟩
  · exact ⟨_, _, rfl⟩
theorem own_ptr {w : World} {B n cap : Nat} {e : TypeId} {size : Nat} {p : Option Addr} {xs : List Value} (h : w.ownsRow B e size (.slice p n cap) n xs) (hn : 0 < n) : ∃ g, p = some ⟨g, 0, none⟩ := by
  rcases h.2 with ⟨_, h0⟩ | ⟨g, c, cur, h1, _⟩
  · omega
  · simp only [Value.slice.injEq] at h1; exact ⟨g, h1.1⟩

/-- Where an append leaves its result. -/
theorem append_where {P : Program} (w : World) (base : Nat) (t ty e : TypeId) (i : TypeInfo) (z : Value) (ht : P.underlying t = some (.slice e)) (hi : P.info? e = some i) (hz : i.zero = some z)
    (v : Value) (n : Nat) (xs : List Value) (hown : w.ownsRow base e i.size v n xs)
    (a : Addr) (m c : Nat) (news : List Value) (hl : news.length = m * i.size) (hnews : ∀ j u, news[j]? = some u → w.cell? (a.add j) = some u) (h1 : ∀ u ∈ news, u.oneCell' = true) (hm : 0 < m)
    (h63 : n + m ≤ maxLen) (hbytes : (n + m) * i.bytes ≤ 140737488355328) {v' : Value} {w' : World}
    (hr : (Builtin.append_ #[t, t] ty #[v, .slice (some a) m c]).run P w = .ok v' w') : v'.ownBlock = v.ownBlock ∨ ∀ g, v'.ownBlock = some g → w.heap.size ≤ g := by
  have hsmall : n + m ≤ 9223372036854775807 := by simp only [maxLen] at h63; omega
  rcases hown.2 with ⟨rfl, rfl⟩ | ⟨g, cap, cur, rfl, hbg, hg, hnc, hcm, hcs, htake⟩
  · have hx := run_append_nil (P := P) w t ty e i z ht hi hz a m c news hl hnews hm (by omega) (by have hb := hbytes; simp only [Nat.zero_add] at hb; omega)
    rw [hx] at hr
    injection hr with h1 _
    subst h1
    exact .inr fun g hg => by cases hg; exact Nat.le_refl _
  · by_cases hroom : n + m ≤ cap
    · have hx := run_append_room (P := P) w t ty e i ht hi g n cap cur hg a m c news hl hnews h1 hroom (by rw [hl, hcs, ← Nat.add_mul]; exact Nat.mul_le_mul_right _ hroom)
      rw [hx] at hr
      injection hr with h1 _
      subst h1
      exact .inl rfl
    · have hx := run_append_grow (P := P) w t ty e i z ht hi hz ⟨g, 0, none⟩ n cap xs hown.1 (hown.cells (g := g) rfl) a m c news hl hnews (by omega) (by omega) (growslice_fits (by omega) hbytes)
      rw [hx] at hr
      injection hr with h1 _
      subst h1
      exact .inr fun g hg => by cases hg; exact Nat.le_refl _

/-- 'append(s, x)' where x's cells are news. -/
theorem wpList_append_fr {P : Program} {ops : Array Oper} {rest : List Oper} {o : Oper} {a : Act} {Q : Exit → Act → World → Prop} (hgd : o.guard = none) (s x : Operand) (t : TypeId)
    (ho : o.op = .call { callee := .builtin .append, args := #[s, x], argTypes := #[t, t] }) (e : TypeId) (ht : P.underlying t = some (.slice e)) {z : Value} {size bytes : Nat}
    (hinfo : (P.info? e).map (fun i => (i.zero, i.size, i.bytes)) = some (some z, size, bytes)) (hzs : z.cells.size = size) (hsz : 0 < size) (hby : bytes ≤ 1048576)
    (B : Nat) (wx : World) (g : Nat) (news : List Value) (hg : wx.heap[g]? = some (.cells news.toArray e)) (hB : B ≤ wx.heap.size) (hl : news.length = size) (h1 : ∀ u ∈ news, u.oneCell' = true) (v : Value) (n : Nat) (xs : List Value) (hs : a.eval s = v) (hown : wx.ownsRow B e size v n xs) (hn : n ≤ 67108864)
    (hx : a.eval x = .slice (some ⟨g, 0, none⟩) 1 1)
    (h : ∀ v' w', w'.ownsRow B e size v' (n + 1) (xs ++ news) → Fr [] v v' wx w' → wpList P ops Q rest (a.put o.dst v') w') :
    wpList P ops Q (o :: rest) a wx := by
  obtain ⟨i, hi, hz, rfl, rfl⟩ := info_parts hinfo
  have hc : ∀ j u, news[j]? = some u → wx.cell? ((⟨g, 0, none⟩ : Addr).add j) = some u := fun j u hu => by
    have h2 : (⟨g, 0, none⟩ : Addr).add j = ⟨g, j, none⟩ := by
      unfold Addr.add; split
      · rename_i e; subst e; rfl
      · simp
    rw [h2, cell_of_row _ _ _ _ _ _ hg]
    simpa using hu
  have hmb : (n + 1) * i.bytes ≤ 140737488355328 := Nat.le_trans (Nat.mul_le_mul (show n + 1 ≤ 67108865 by omega) hby) (by decide)
  refine wpList_plain hgd fun K hK => ?_
  obtain ⟨v', w', hr, h2, h3, _⟩ := run_append_own (P := P) wx B t o.type e i z i.size i.bytes ht hi hz rfl rfl hzs hsz v n xs hown ⟨g, 0, none⟩ 1 1 news (by omega) hc h1 (by unfold maxLen; omega) hmb hB
  have hw := append_where (P := P) wx B t o.type e i z ht hi hz v n xs hown ⟨g, 0, none⟩ 1 1 news (by omega) hc h1 (by omega) (by unfold maxLen; omega) hmb hr
  unfold Oper.wp execOp
  simp only [ho, resolve, invoke, builtin, Sem.run_bind, Sem.run_pure, Result.andThen_ok, List.map_toArray, List.map_cons, List.map_nil, hs, hx, hr]
  exact hK _ _ (h v' w' h2 (Fr.of_grown h3 hw))

end Go.Proofs.Yteejlibiidiibaa
