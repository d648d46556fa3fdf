/- Walks and plain facts for the laws of membership, for all values and types that the heap holds (texts C5 D1). -/
import Derived.Test.YtjgldaaofdpcgaaGreatU45
set_option linter.unusedVariables false
set_option linter.unusedSimpArgs false
namespace Go.Proofs.YtjgldaaofdpcgaaGreat
open Go.RowKit Go.Ident
set_option maxRecDepth 100000
theorem GV.imp {P Q : VV → Prop} (h : ∀ V, P V → Q V) {S : SD} {w w' : World} {e : Ending} (k : GV P S w e w') : GV Q S w e w' := by
  obtain ⟨v, V, h1, h2, h3, h4⟩ := k; exact ⟨v, V, h1, h2, h _ h3, h4⟩
theorem nb_of {T : Ty} {tv : Value} {N Lb : Nat} {S : SD} {k h : Int} {P : VV → Prop} (hP : ∀ V, P V → V.nodes ≤ N ∧ V.labels.length ≤ Lb)
    (hc : ∀ w, SRC S w → TB S T tv w → Calls Tryz.prog 40 #[.pointer (some ⟨S.b, 0, none⟩), tv, .int .i64 k, .int .i64 h] w (GV P S w)) : NB T tv N Lb S k h :=
  fun w hS hT => (hc w hS hT).mono fun _ _ g => g.imp hP
def NN : Nat → Nat
  | 0 => 100
  | h + 1 => 1 + 6 * NN h
theorem NN_ge : ∀ h, 100 ≤ NN h
  | 0 => Nat.le_refl _
  | h + 1 => by have := NN_ge h; rw [NN]; omega
theorem kindN_kids {n : TN} (h : kindN n = true) : (n.kind = 12 → n.kids.length = 2) ∧ (n.kind = 14 → 1 ≤ n.kids.length) ∧ (n.kind = 16 → 1 ≤ n.kids.length) ∧ (n.kind = 17 → 1 ≤ n.kids.length) := by
  refine ⟨fun e => ?_, fun e => ?_, fun e => ?_, fun e => ?_⟩ <;> · unfold kindN at h; simp [e] at h; omega
theorem near_node (T : Ty) (n : Nat) (hD : TD n T) (hn : n ≤ 1000) (tv : Value) (S : SD) (H : Nat) (h : Int) (h1 : 1 ≤ h) (hh : h ≤ 1000) (hv : ∀ k, NV T tv (NN H) S k (h - 1)) :
    ∀ (m : Nat) (k : Int), m ≤ 1000 → (n : Int) - k ≤ m → NB T tv (NN (H + 1)) (1000 + 3 * m) S k h := by
  have hN := NN_ge H
  have hs : NN (H + 1) = 1 + 6 * NN H := rfl
  intro m
  induction m with
  | zero =>
    intro k _ hk
    have hl := hD.len
    exact nb_of (fun V hV => ⟨by have := hV.1; omega, by rw [hV.2]; simp⟩) fun w hS hT => near_leaf T tv S k h (.inr (.inr (by omega))) w hS hT
  | succ m ih =>
    intro k hm hk
    have hl := hD.len
    by_cases hc : k < 0 ∨ (T.nodes.length : Int) ≤ k
    · exact nb_of (fun V hV => ⟨by have := hV.1; omega, by rw [hV.2]; simp⟩) fun w hS hT => near_leaf T tv S k h (.inr hc) w hS hT
    obtain ⟨kn, rfl⟩ : ∃ kn : Nat, k = (kn : Int) := ⟨k.toNat, by omega⟩
    have hkn : kn < T.nodes.length := by omega
    have hd := hD.at' kn hkn
    obtain ⟨n0, hn0⟩ : ∃ n0, T.nodes[kn] = n0 := ⟨_, rfl⟩
    rw [hn0] at hd
    obtain ⟨k12, k14, k16, k17⟩ := kindN_kids hd.kind
    have hkid : n0.bool = true → ∀ k' ∈ n0.kids, NB T tv (NN (H + 1)) (1000 + 3 * m) S k' h := fun hb k' hk' => by
      have := hd.later hb k' hk'
      exact ih k' (by omega) (by omega)
    have hin : ∀ k' ∈ n0.kids, 0 ≤ k' ∧ k' < (T.nodes.length : Int) := fun k' hk' => by
      have := hd.edges k' (by unfold edgesN; simp [hk']); omega
    have hk3 := hd.kids
    by_cases ho : OwnK n0.kind = true
    rotate_left
    · exact nb_of (fun V hV => ⟨by have := hV.1; omega, by have := hV.2; omega⟩) fun w hS hT => near_kz T tv S kn h n0 h1 hh hkn hn0 ho w hS hT
    have hcase : n0.kind = 3 ∨ n0.kind = 4 ∨ n0.kind = 5 ∨ n0.kind = 6 ∨ n0.kind = 7 ∨ n0.kind = 8 ∨ n0.kind = 9 ∨ n0.kind = 10 ∨ n0.kind = 12 ∨ n0.kind = 13 ∨ n0.kind = 14 ∨ n0.kind = 16 ∨ n0.kind = 17 ∨ n0.kind = 19 := by simpa [OwnK, or_assoc] using ho
    have hp : ∀ V : VV, V.nodes ≤ 1 ∧ V.labels = [] → V.nodes ≤ NN (H + 1) ∧ V.labels.length ≤ 1000 + 3 * (m + 1) := fun V hV => ⟨by have := hV.1; omega, by rw [hV.2]; simp⟩
    rcases hcase with e | e | e | e | e | e | e | e | e | e | e | e | e | e
    · exact nb_of hp fun w hS hT => near_k3 T tv S kn h n0 h1 hh hkn hn0 e w hS hT
    · exact nb_of hp fun w hS hT => near_ks T tv S kn h n0 h1 hh hkn hn0 (by simp [e]) w hS hT
    · exact nb_of hp fun w hS hT => near_ks T tv S kn h n0 h1 hh hkn hn0 (by simp [e]) w hS hT
    · exact nb_of hp fun w hS hT => near_ks T tv S kn h n0 h1 hh hkn hn0 (by simp [e]) w hS hT
    · exact nb_of hp fun w hS hT => near_ks T tv S kn h n0 h1 hh hkn hn0 (by simp [e]) w hS hT
    · exact nb_of hp fun w hS hT => near_ks T tv S kn h n0 h1 hh hkn hn0 (by simp [e]) w hS hT
    · exact nb_of hp fun w hS hT => near_ks T tv S kn h n0 h1 hh hkn hn0 (by simp [e]) w hS hT
    · exact nb_of (fun V hV => ⟨by have := hV.1; omega, by rw [hV.2]; simp⟩) fun w hS hT => near_k10 T tv S kn h n0 h1 hh hkn hn0 e (NN H) (by omega) hk3 hv w hS hT
    · exact nb_of (fun V hV => ⟨by have := hV.1; omega, by rw [hV.2]; simp⟩) fun w hS hT => near_k12 T tv S kn h n0 h1 hh hkn hn0 e (k12 e) (NN H) (by omega) hk3 hv w hS hT
    · exact nb_of (fun V hV => ⟨by have := hV.1; omega, by rw [hV.2]; simp⟩) fun w hS hT => near_k13 T tv S kn h n0 h1 hh hkn hn0 e (NN H) (by omega) hd.fields hv w hS hT
    · exact nb_of (fun V hV => ⟨by have := hV.1; omega, by rw [hV.2]; simp⟩) fun w hS hT => near_k14 T tv S kn h n0 h1 hh hkn hn0 e (NN H) (by omega) (n0.kids.length - 1) (by have := k14 e; omega) (by omega) hv w hS hT
    · exact nb_of (fun V hV => ⟨hV.1, by have := hV.2; omega⟩) fun w hS hT => near_k16 T tv S kn h n0 h1 hh hkn hn0 e (NN (H + 1)) (1000 + 3 * m) (k16 e) hk3 (hkid (by simp [TN.bool, e])) w hS hT
    · exact nb_of (fun V hV => ⟨hV.1, by have := hV.2; omega⟩) fun w hS hT => near_k17 T tv S kn h n0 h1 hh hkn hn0 e (NN (H + 1)) (1000 + 3 * m) (k17 e) hk3 (by omega) hin (hkid (by simp [TN.bool, e])) w hS hT
    · exact nb_of (fun V hV => ⟨by have := hV.1; omega, by have := hV.2; omega⟩) fun w hS hT => near_k19 T tv S kn h n0 h1 hh hkn hn0 e w hS hT
theorem Near_any (T : Ty) (n : Nat) (hD : TD n T) (hn : n ≤ 1000) (tv : Value) (S : SD) : ∀ (H : Nat) (h : Int), h.toNat ≤ H → h ≤ 1000 → ∀ k, NV T tv (NN H) S k h := by
  have hl := hD.len
  intro H
  induction H with
  | zero =>
    intro h h0 hh k
    exact Near_step T tv (NN 0) 0 S k h (by decide) (nb_of (fun V hV => ⟨by have := hV.1; have : NN 0 = 100 := rfl; omega, by rw [hV.2]; simp⟩) fun w hS hT => near_leaf T tv S k h (.inl (by omega)) w hS hT)
  | succ H ih =>
    intro h h0 hh k
    have hN := NN_ge (H + 1)
    by_cases hc : h ≤ 0 ∨ k < 0 ∨ (T.nodes.length : Int) ≤ k
    · exact Near_step T tv (NN (H + 1)) 0 S k h (by omega) (nb_of (fun V hV => ⟨by have := hV.1; omega, by rw [hV.2]; simp⟩) fun w hS hT => near_leaf T tv S k h hc w hS hT)
    · exact Near_step T tv (NN (H + 1)) (1000 + 3 * n) S k h (by omega) (near_node T n hD hn tv S H h (by omega) hh (ih (h - 1) (by omega) (by omega)) n k (by omega) (by omega))
end Go.Proofs.YtjgldaaofdpcgaaGreat
namespace Go.Proofs.YtjgldaaofdpcgaaGreat
open Go.RowKit Go.Ident
set_option maxRecDepth 100000
set_option maxHeartbeats 16000000 in
theorem short_any (g : Nat) (p q : Option Addr) (n m c d : Nat) (w : World) (h : w.heap[g]? = some (.cells #[.slice p n c, .slice q m d] 22)) : Calls Tryz.prog 8 #[.slice (some ⟨g, 0, none⟩) 2 2] w (ER (decide (n ≤ 80) && decide (m ≤ 80)) w) := by
  obtain ⟨z0, z1⟩ := cells2 h
  clear h
  have Hb := Lib.hid (Below.refl w.heap.size w)
  go_enter Tryz.func8, Tryz.ntmps8
  go_wp2
  go_loop [3] (fun i => ∃ k : Nat, i = .int .i64 k ∧ k ≤ 2 ∧ (0 < k → n ≤ 80) ∧ (1 < k → m ≤ 80)) (fun i => 2 - (intOf i).toNat)
  case atStart => exact ⟨0, rfl, by omega, by omega, by omega⟩
  case round =>
    obtain ⟨k, rfl, hk, h1, h2⟩ := hrel
    have H1 := Lib.hid h1; have H2 := Lib.hid h2
    clear h1 h2
    rcases (show k = 0 ∨ k = 1 ∨ k = 2 by omega) with rfl | rfl | rfl
    · by_cases hn : n ≤ 80
      · have d8 : decide (80 < n) = false := by simp; omega
        have d9 : decide ((80 : Int) < (n : Int)) = false := by simp; omega
        have Hn := Lib.hid hn
        clear hn
        go_wp2
        exact ⟨⟨1, by first | rfl | go_num, by omega, fun _ => Hn.out, fun h => by omega⟩, by simp [intOf]⟩
      · have d8 : decide (80 < n) = true := by simp; omega
        have d9 : decide ((80 : Int) < (n : Int)) = true := by simp; omega
        have Hr := Lib.hid (show (decide (n ≤ 80) && decide (m ≤ 80)) = false by simp [hn])
        clear hn
        go_wp2
        go_ret
        rw [Hr.out]
        exact ⟨rfl, Hb.out⟩
    · by_cases hn : m ≤ 80
      · have d8 : decide (80 < m) = false := by simp; omega
        have d9 : decide ((80 : Int) < (m : Int)) = false := by simp; omega
        have Hn := Lib.hid hn
        clear hn
        go_wp2
        exact ⟨⟨2, by first | rfl | go_num, by omega, fun _ => H1.out (by omega), fun h => Hn.out⟩, by simp [intOf]⟩
      · have d8 : decide (80 < m) = true := by simp; omega
        have d9 : decide ((80 : Int) < (m : Int)) = true := by simp; omega
        have Hr := Lib.hid (show (decide (n ≤ 80) && decide (m ≤ 80)) = false by simp [hn])
        clear hn
        go_wp2
        go_ret
        rw [Hr.out]
        exact ⟨rfl, Hb.out⟩
    · have Hr := Lib.hid (show (decide (n ≤ 80) && decide (m ≤ 80)) = true by simp [H1.out (by omega), H2.out (by omega)])
      go_wp2
      go_ret
      rw [Hr.out]
      exact ⟨rfl, Hb.out⟩
theorem results_cell_cell {P : Program} {fn : Func} {p q : Tmp} {ty uy : TypeId} (h : fn.results = #[.cell p ty, .cell q uy]) (tmps : Array Value) (w : World) (g : Nat) (t : TypeId) (cs : Array Value) (fr : Nat × Nat) (d : TypeDesc)
    (hp : tmps.getD p undef = .pointer (some ⟨g, 0, none⟩)) (hg : w.heap[g]? = some (.cells cs t fr))
    (hu : P.underlying ty = some d) (hd : (match d with | .struct _ | .array _ _ => true | _ => false) = true) (hi : (P.info? ty).map (·.size) = some cs.size)
    (g2 : Nat) (t2 : TypeId) (cs2 : Array Value) (fr2 : Nat × Nat) (d2 : TypeDesc)
    (hp2 : tmps.getD q undef = .pointer (some ⟨g2, 0, none⟩)) (hg2 : w.heap[g2]? = some (.cells cs2 t2 fr2))
    (hu2 : P.underlying uy = some d2) (hd2 : (match d2 with | .struct _ | .array _ _ => true | _ => false) = true) (hi2 : (P.info? uy).map (·.size) = some cs2.size) :
    (results fn tmps).run P w = .ok (.tuple #[.agg cs, .agg cs2]) w := by
  have hp' : tmps[p]?.getD undef = .pointer (some ⟨g, 0, none⟩) := by simpa using hp
  have hq' : tmps[q]?.getD undef = .pointer (some ⟨g2, 0, none⟩) := by simpa using hp2
  simp [results, h, hp', hq', asAddr, run_loadVar_row w g t ty cs fr d hg hu hd hi, run_loadVar_row w g2 t2 uy cs2 fr2 d2 hg2 hu2 hd2 hi2]
end Go.Proofs.YtjgldaaofdpcgaaGreat
