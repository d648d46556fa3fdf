/-
  Walks: the reference's fresh.
-/
import Derived.Test.YtejiagmfinhjbaaNg
namespace Go.Proofs.Ytejiagmfinhjbaa
open Go.RowKit Go.Ident

theorem Strs.below {w wr : World} {p : Option Addr} {ss : List ByteArray} (h : Strs w p ss) (hb : Below w.heap.size w wr) : Strs wr p ss := by
  refine ⟨fun i hi => ?_, h.size⟩
  obtain ⟨a, o, h1, h2, h3⟩ := h.cell i hi
  exact ⟨a, o, h1, Nat.lt_of_lt_of_le h2 hb.size, (hb.cell h2).trans h3⟩
theorem bys_take {ss : List ByteArray} {k : Nat} (h : k < ss.length) : bys (ss.take (k + 1)) = bys (ss.take k) ++ [ss[k].data.toList] := by
  unfold bys; rw [List.take_succ_eq_append_getElem h, List.map_append]; rfl
theorem bys_mem {ss : List ByteArray} {k : Nat} (h : k < ss.length) : ss[k].data.toList ∈ bys ss := List.mem_map.2 ⟨_, List.getElem_mem h, rfl⟩

set_option maxRecDepth 100000 in
set_option maxHeartbeats 8000000 in
theorem among_any (p : Option Addr) (cap : Nat) (ss : List ByteArray) (s : ByteArray) (w : World) (hst : Strs w p ss) (hmb : ss.length ≤ 1000000 := by omega) :
    Calls Try.prog 39 #[.slice p ss.length cap, .string s] w fun e w' => e = .returned (.bool (decide (s.data.toList ∈ bys ss))) ∧ w' = w := by
  have Hst := Lib.hid hst; clear hst
  obtain ⟨m, hm⟩ : ∃ m, m = ss.length := ⟨_, rfl⟩
  rw [← hm] at hmb ⊢
  have Hm := Lib.hid hm; clear hm
  obtain ⟨R, hR⟩ : ∃ R, R = decide (s.data.toList ∈ bys ss) := ⟨_, rfl⟩
  rw [← hR]
  have HR := Lib.hid hR; clear hR
  go_enter Try.func39, Try.ntmps39
  go_wp2
  go_loop [5] (fun i => ∃ k : Nat, k ≤ m ∧ i = .int .i64 k ∧ s.data.toList ∉ bys (ss.take k)) (fun i => m - (intOf i).toNat)
  case atStart => exact ⟨0, by omega, rfl, by simp [bys]⟩
  case round =>
    obtain ⟨k, hk, rfl, hno⟩ := hrel
    have Hno := Lib.hid hno; clear hno
    by_cases hlt : k < m
    · have hks : k < ss.length := by rw [← Hm.out]; exact hlt
      obtain ⟨a, o, rfl, ha, c0⟩ := Hst.out.cell k hks
      have hst2 := Lib.hid (bys_take hks)
      have hmem := Lib.hid (bys_mem hks)
      obtain ⟨x, hx⟩ : ∃ x, x = ss[k] := ⟨_, rfl⟩
      rw [← hx] at c0 hst2 hmem
      clear hx hks
      by_cases he : x = s
      · have hR : R = true := by rw [HR.out, decide_eq_true]; rw [← he]; exact hmem.out
        have d : (x.toList == s.toList) = true := by rw [he]; simp
        subst hR
        clear he
        go_wp2
        go_ret
        exact ⟨rfl, rfl⟩
      · have hne : s.data.toList ≠ x.data.toList := fun h => he (by
          have : x.data = s.data := by rw [← Array.toList_inj]; exact h.symm
          cases x; cases s; simpa using this)
        have d : (x.toList == s.toList) = false := by rw [beq_eq_false_iff_ne, ← list_eq, ← list_eq]; exact fun h => hne h.symm
        have Hne := Lib.hid hne
        clear he hne
        go_wp2
        refine ⟨⟨k + 1, by omega, by go_num, ?_⟩, by simp [intOf]; omega⟩
        rw [hst2.out, List.mem_append, List.mem_singleton]
        rintro (h | h)
        · exact Hno.out h
        · exact Hne.out h
    · have hR : R = false := by
        rw [HR.out, decide_eq_false]
        have hk2 : k = ss.length := by rw [← Hm.out]; omega
        have := Hno.out
        rw [hk2, List.take_length] at this
        exact this
      subst hR
      go_wp2
      go_ret
      exact ⟨rfl, rfl⟩

/-- The first k bytes. -/
def bytesK (k : Nat) : List UInt8 := (List.range k).map UInt8.ofNat
theorem bytesK_succ (k : Nat) : bytesK (k + 1) = bytesK k ++ [UInt8.ofNat k] := by unfold bytesK; rw [List.range_succ, List.map_append]; rfl
theorem bytesK_len (k : Nat) : (bytesK k).length = k := by simp [bytesK]
set_option maxRecDepth 100000 in
set_option maxHeartbeats 8000000 in
theorem bytes_any (w : World) : Calls Try.prog 52 #[] w fun e w' => e = .returned (.string ⟨alphS.toArray⟩) ∧ Below w.heap.size w w' := by
  have hst := Lib.hid (OR.nil (Below.refl w.heap.size w))
  obtain ⟨L, hall⟩ : ∃ L, L = bytesK 256 := ⟨_, rfl⟩
  rw [show alphS = bytesK 256 from rfl, ← hall]
  have Hall := Lib.hid hall; clear hall
  go_enter Try.func52, Try.ntmps52
  go_wp2
  go_loopw [1, 2] (fun v i wr => ∃ k : Nat, k ≤ 256 ∧ i = .int .i64 k ∧ OR w v (bytesK k) wr) (fun _ i _ => 256 - (intOf i).toNat)
  case atStart => exact ⟨0, by omega, rfl, hst.out⟩
  case round =>
    obtain ⟨k, hk, rfl, hor⟩ := hrel
    by_cases hlt : k < 256
    · have Hor := Lib.hid hor; clear hor
      have hsu := Lib.hid (bytesK_succ k)
      have hle := Lib.hid (bytesK_len k)
      have hkm : (k : Int) % 256 = (k : Int) := by omega
      have hkb : (k : Int) = ((UInt8.ofNat k).toNat : Int) := by simp; omega
      have Hkb := Lib.hid hkb; clear hkb
      go_wp2_with (first
        | (at_builtin; refine appendR_bytes rfl (.tmp 7) (.tmp 10) rfl w _ _ (bytesK k) [UInt8.ofNat k] _ (by simp only [Lib.byteCells, List.map_cons, List.map_nil, ← Hkb.out]) rfl Hor.out 1 rfl rfl (by rw [hle.out]; simp only [List.length_cons, List.length_nil]; omega) ?_; intro v' w' hob; have Hob := Lib.hid hob; clear hob))
      exact ⟨⟨k + 1, by omega, by go_num, by rw [hsu.out]; exact Hob.out⟩, by simp [intOf]; omega⟩
    · obtain rfl : k = 256 := by omega
      rw [← Hall.out] at hor
      have hcv := hor.conv
      have Hor := Lib.hid hor; clear hor
      go_wp2
      go_ret
      exact ⟨rfl, Hor.out.below⟩

/-- What the loop of fresh needs of the sequence. -/
structure Seq (kind : Nat) (ss : List ByteArray) (N : Nat) : Prop where
  le : N ≤ 60
  no : seqK kind N ∉ bys ss
  yes : ∀ n, n < N → seqK kind n ∈ bys ss
set_option maxRecDepth 100000 in
set_option maxHeartbeats 16000000 in
theorem refFresh1 (S : ByteArray) (hby : ∀ w, Calls Try.prog 52 #[] w fun e w' => e = .returned (.string S) ∧ Below w.heap.size w w')
    (hNX : ∀ (v : Value) (n : Nat) (w0 w : World), n ≤ 60 → OR w0 v (seqK 1 n) w → Calls Try.prog 53 #[v, .string S, .string S] w fun e w' => ∃ v', e = .returned v' ∧ OR w v' (seqK 1 (n + 1)) w')
    (p : Option Addr) (cap : Nat) (ss : List ByteArray) (hss : ss.length ≤ 60) (N : Nat) (hN : Seq 1 ss N) (w : World) (hst : Strs w p ss) :
    Calls Try.prog 36 #[.int .i64 1, .slice p ss.length cap] w fun e w' => e = .returned (.string ⟨(seqK 1 N).toArray⟩) ∧ Below w.heap.size w w' := by
  have Hst := Lib.hid hst; clear hst
  obtain ⟨m, hm⟩ : ∃ m, m = ss.length := ⟨_, rfl⟩
  rw [← hm]
  have hmb : m ≤ 60 := by omega
  have Hm := Lib.hid hm; clear hm
  have HN := Lib.hid hN; clear hN
  have Hkl := Lib.hid (show (seqK 1 0) = [] from rfl)
  go_enter Try.func36, Try.ntmps36
  go_wp2_with (first
    | (go_at_call 52; refine (hby _).mono ?_; rintro e w1 ⟨rfl, hb1⟩; have Hb1 := Lib.hid hb1; clear hb1))
  have Hst0 := Lib.hid (show OR w (.slice none 0 0) (seqK 1 0) w1 by rw [Hkl.out]; exact OR.nil (below_trans ((Below.refl w.heap.size w).alloc (Nat.le_refl _) _) Hb1.out))
  clear hby
  go_loopg [7] N (fun q v wr => ∃ n : Nat, q + n = N ∧ OR w v (seqK 1 n) wr)
  case atStart => exact ⟨0, by omega, Hst0.out⟩
  case round =>
    obtain ⟨n, hq, hor⟩ := hrel
    have hn : n ≤ 60 := by have := HN.out.le; omega
    have hcv := hor.conv
    have hlen := seqK_len (kind := 1) (by omega) (show n ≤ 61 by omega)
    have hA := among_any p cap ss ⟨(seqK 1 n).toArray⟩ wr (Hst.out.below hor.below)
    rw [show (⟨(seqK 1 n).toArray⟩ : ByteArray).data.toList = seqK 1 n from rfl, ← Hm.out] at hA
    have hX := hNX _ n w wr hn hor
    have Hor := Lib.hid hor; clear hor
    by_cases hlt : n < N
    · rw [decide_eq_true (HN.out.yes n hlt)] at hA
      clear hlen
      go_wp2_with (first
        | (go_at_call 39; refine hA.mono ?_; rintro e w3 ⟨rfl, rfl⟩)
        | (go_at_call 53; refine hX.mono ?_; rintro e w4 ⟨v4, rfl, hb4⟩; have Hb4 := Lib.hid hb4; clear hb4))
      go_roundg (N - (n + 1))
      case measure => omega
      case rel => exact ⟨n + 1, by omega, Hb4.out.rebase Hor.out.below⟩
    · obtain rfl : n = N := by omega
      rw [decide_eq_false HN.out.no] at hA
      clear hlen hX
      go_wp2_with (first
        | (go_at_call 39; refine hA.mono ?_; rintro e w3 ⟨rfl, rfl⟩))
      go_ret
      exact ⟨rfl, Hor.out.below⟩

set_option maxRecDepth 100000 in
set_option maxHeartbeats 16000000 in
theorem refFresh0
    (hNX : ∀ (v : Value) (n : Nat) (w0 w : World), n ≤ 60 → OR w0 v (seqK 0 n) w → Calls Try.prog 53 #[v, .string ⟨#[97, 98, 99, 100, 101, 102, 103, 104, 105, 106, 107, 108, 109, 110, 111, 112, 113, 114, 115, 116, 117, 118, 119, 120, 121, 122]⟩, .string ⟨#[48, 49, 50, 51, 52, 53, 54, 55, 56, 57, 95, 97, 98, 99, 100, 101, 102, 103, 104, 105, 106, 107, 108, 109, 110, 111, 112, 113, 114, 115, 116, 117, 118, 119, 120, 121, 122]⟩] w fun e w' => ∃ v', e = .returned v' ∧ OR w v' (seqK 0 (n + 1)) w')
    (p : Option Addr) (cap : Nat) (ss : List ByteArray) (hss : ss.length ≤ 60) (N : Nat) (hN : Seq 0 ss N) (w : World) (hst : Strs w p ss) :
    Calls Try.prog 36 #[.int .i64 0, .slice p ss.length cap] w fun e w' => e = .returned (.string ⟨(seqK 0 N).toArray⟩) ∧ Below w.heap.size w w' := by
  have Hst := Lib.hid hst; clear hst
  obtain ⟨m, hm⟩ : ∃ m, m = ss.length := ⟨_, rfl⟩
  rw [← hm]
  have hmb : m ≤ 60 := by omega
  have Hm := Lib.hid hm; clear hm
  have HN := Lib.hid hN; clear hN
  have Hst0 := Lib.hid (show OR w (.slice (some ⟨w.heap.size, 0, none⟩) 1 1) (seqK 0 0) (w.alloc (.cells #[.int .u8 97] 5)) from OR.lit (Below.refl w.heap.size w) [97] #[.int .u8 97] rfl (by simp))
  go_enter Try.func36, Try.ntmps36
  go_wp2
  go_loopg [7] N (fun q v wr => ∃ n : Nat, q + n = N ∧ OR w v (seqK 0 n) wr)
  case atStart => exact ⟨0, by omega, Hst0.out⟩
  case round =>
    obtain ⟨n, hq, hor⟩ := hrel
    have hn : n ≤ 60 := by have := HN.out.le; omega
    have hcv := hor.conv
    have hlen := seqK_len (kind := 0) (by omega) (show n ≤ 61 by omega)
    have hA := among_any p cap ss ⟨(seqK 0 n).toArray⟩ wr (Hst.out.below hor.below)
    rw [show (⟨(seqK 0 n).toArray⟩ : ByteArray).data.toList = seqK 0 n from rfl, ← Hm.out] at hA
    have hX := hNX _ n w wr hn hor
    have Hor := Lib.hid hor; clear hor
    by_cases hlt : n < N
    · rw [decide_eq_true (HN.out.yes n hlt)] at hA
      clear hlen
      go_wp2_with (first
        | (go_at_call 39; refine hA.mono ?_; rintro e w3 ⟨rfl, rfl⟩)
        | (go_at_call 53; refine hX.mono ?_; rintro e w4 ⟨v4, rfl, hb4⟩; have Hb4 := Lib.hid hb4; clear hb4))
      go_roundg (N - (n + 1))
      case measure => omega
      case rel => exact ⟨n + 1, by omega, Hb4.out.rebase Hor.out.below⟩
    · obtain rfl : n = N := by omega
      rw [decide_eq_false HN.out.no] at hA
      clear hlen hX
      go_wp2_with (first
        | (go_at_call 39; refine hA.mono ?_; rintro e w3 ⟨rfl, rfl⟩))
      go_ret
      exact ⟨rfl, Hor.out.below⟩

theorem refFresh_any (kind : Nat) (hkd : kind ≤ 1) (p : Option Addr) (cap : Nat) (ss : List ByteArray) (hss : ss.length ≤ 60) (w : World) (hst : Strs w p ss) :
    Calls Try.prog 36 #[.int .i64 kind, .slice p ss.length cap] w fun e w' => e = .returned (.string ⟨(fre kind (bys ss)).toArray⟩) ∧ Below w.heap.size w w' := by
  have hN := freN_spec (kind := kind) hkd (used := bys ss) (by simp [bys]; exact hss)
  have hS : Seq kind ss (freN kind (bys ss)) := ⟨hN.1, hN.2.1, hN.2.2⟩
  by_cases h1 : kind = 1
  · subst h1
    refine refFresh1 ⟨alphS.toArray⟩ bytes_any (fun v n w0 w hn hor => ?_) p cap ss hss _ hS w hst
    have hz : (⟨alphS.toArray⟩ : ByteArray).size = 256 := by decide +kernel
    have := refNext_any ⟨alphS.toArray⟩ ⟨alphS.toArray⟩ (by omega) (by omega) (by omega) (by omega) v (seqK 1 n) (by have := seqK_len (kind := 1) (by omega) (show n ≤ 61 by omega); omega) w0 w hor
    rw [show (⟨alphS.toArray⟩ : ByteArray).data.toList = alphS from List.toList_toArray, show seqK 1 n = seqS n from rfl, rnxt_seqS hn] at this
    exact this
  · obtain rfl : kind = 0 := by omega
    refine refFresh0 (fun v n w0 w hn hor => ?_) p cap ss hss _ hS w hst
    have := refNext_any ⟨#[97, 98, 99, 100, 101, 102, 103, 104, 105, 106, 107, 108, 109, 110, 111, 112, 113, 114, 115, 116, 117, 118, 119, 120, 121, 122]⟩ ⟨#[48, 49, 50, 51, 52, 53, 54, 55, 56, 57, 95, 97, 98, 99, 100, 101, 102, 103, 104, 105, 106, 107, 108, 109, 110, 111, 112, 113, 114, 115, 116, 117, 118, 119, 120, 121, 122]⟩ (by decide) (by decide) (by decide) (by decide) v (seqK 0 n) (by have := seqK_len (kind := 0) (by omega) (show n ≤ 61 by omega); omega) w0 w hor
    rw [show (⟨#[97, 98, 99, 100, 101, 102, 103, 104, 105, 106, 107, 108, 109, 110, 111, 112, 113, 114, 115, 116, 117, 118, 119, 120, 121, 122]⟩ : ByteArray).data.toList = alphA by decide +kernel, show (⟨#[48, 49, 50, 51, 52, 53, 54, 55, 56, 57, 95, 97, 98, 99, 100, 101, 102, 103, 104, 105, 106, 107, 108, 109, 110, 111, 112, 113, 114, 115, 116, 117, 118, 119, 120, 121, 122]⟩ : ByteArray).data.toList = alphB by decide +kernel, show seqK 0 n = seqA n from rfl, rnxt_seqA hn] at this
    exact this
end Go.Proofs.Ytejiagmfinhjbaa
