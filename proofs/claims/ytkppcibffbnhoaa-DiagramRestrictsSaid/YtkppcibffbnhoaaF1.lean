/-
  Walks: the reference's walk, and Evaluate.
-/
import Derived.Test.YtkppcibffbnhoaaE5
namespace Go.Proofs.Ytkppcibffbnhoaa
open Go.RowKit

/-- Nodes that can be walked. -/
def SafeN (N : List IT) : Prop := ∀ k (h : k < N.length), (0 ≤ (N[k]).1 ∧ (N[k]).1 < 12) ∧ (0 ≤ (N[k]).2.1 ∧ (N[k]).2.1 < (k : Int) + 2) ∧ (0 ≤ (N[k]).2.2 ∧ (N[k]).2.2 < (k : Int) + 2)
def bitsF (a : Nat) : Nat → Bool := fun i => a.testBit i
theorem wrap_u64 (n : Int) : IntKind.u64.wrap n = n % 18446744073709551616 := by simp [IntKind.wrap, IntKind.bits, IntKind.signed]
theorem bits_and_u64 (a b : Nat) (ha : a < 18446744073709551616) (hb : b < 18446744073709551616) : bits .and .u64 (a : Int) (b : Int) = ((a &&& b : Nat) : Int) := by
  unfold bits
  dsimp only
  rw [wrap_u64]
  have e1 : BitVec.ofInt 64 (a : Int) = BitVec.ofNat 64 a := by simp
  have e2 : BitVec.ofInt 64 (b : Int) = BitVec.ofNat 64 b := by simp
  have e3 : IntKind.u64.bits = 64 := rfl
  rw [e3, e1, e2]
  have hx : a &&& b < 2 ^ 64 := Nat.and_lt_two_pow a (by simpa using hb)
  have e4 : (BitVec.ofNat 64 a &&& BitVec.ofNat 64 b).toNat = a &&& b := by
    rw [BitVec.toNat_and, BitVec.toNat_ofNat, BitVec.toNat_ofNat, Nat.mod_eq_of_lt (by simpa using ha), Nat.mod_eq_of_lt (by simpa using hb)]
  rw [e4]
  omega
/-- 'a>>l&1 == 1'. -/
theorem bit_eq (a l : Nat) (ha : a < 18446744073709551616) : (bits .and .u64 ((a : Int) / 2 ^ l) 1 == 1) = a.testBit l := by
  have h1 : ((a : Int) / 2 ^ l) = ((a / 2 ^ l : Nat) : Int) := by simp
  have h2 := bits_and_u64 (a / 2 ^ l) 1 (Nat.lt_of_le_of_lt (Nat.div_le_self _ _) ha) (by omega)
  rw [h1]
  have h3 : ((1 : Nat) : Int) = 1 := rfl
  rw [h3] at h2
  rw [h2, Nat.and_one_is_mod, Nat.testBit_eq_decide_div_mod_eq, Bool.eq_iff_iff]
  simp; omega
/-- What is left to walk. -/
def Left (N : List IT) (a r0 r : Nat) : Prop := ∀ L, Wf L → N = cN (nodes L) → (tr L r0).ev (bitsF a) = (tr L r).ev (bitsF a)
theorem Left.refl (N : List IT) (a r : Nat) : Left N a r r := fun _ _ _ => rfl
theorem Left.step {N : List IT} {a r0 k l h j : Nat} (hl : Left N a r0 (k + 2)) (hk : k < N.length) (e : N[k] = ((l : Int), (h : Int), (j : Int))) : Left N a r0 (if a.testBit l then h else j) := fun L w hN => by
  rw [hl L w hN]
  subst hN
  have hkL : k < L.length := by simpa [cN, nodes] using hk
  have e1 : tr L (k + 2) = L[k] := by simp only [tr]; rw [List.getD_eq_getElem?_getD, List.getElem?_eq_getElem hkL]; rfl
  obtain ⟨l', h', j', hx⟩ := w.nc L[k] (List.getElem_mem hkL)
  have hm : T.n l' h' j' ∈ L := hx ▸ List.getElem_mem hkL
  obtain ⟨i1, i2⟩ := w.kids hm
  have e2 : castT (enc L L[k]) = ((l : Int), (h : Int), (j : Int)) := by rw [← e]; simp [cN, nodes]
  rw [hx] at e2
  simp only [enc, castT, Prod.mk.injEq] at e2
  obtain ⟨a1, a2, a3⟩ := e2
  rw [e1, hx]
  have b1 : l' = l := by omega
  have b2 : ref L h' = h := by omega
  have b3 : ref L j' = j := by omega
  subst b1
  simp only [T.ev]
  show (if a.testBit l' then _ else _) = _
  split
  · rw [← b2, tr_ref i1]
  · rw [← b3, tr_ref i2]
/-- What a walk answers. -/
def WR (N : List IT) (a r : Nat) (w : World) (e : Ending) (w' : World) : Prop := ∃ b : Bool, e = .returned (.bool b) ∧ (∀ L, Wf L → N = cN (nodes L) → b = (tr L r).ev (bitsF a)) ∧ Below w.heap.size w w'

theorem WR.mk {N : List IT} {a r : Nat} {b : Bool} {w w' : World} (h : ∀ L, Wf L → N = cN (nodes L) → b = (tr L r).ev (bitsF a)) (hb : Below w.heap.size w w') : WR N a r w (.returned (.bool b)) w' := ⟨b, rfl, h, hb⟩
set_option maxRecDepth 100000
set_option maxHeartbeats 4000000 in
theorem walk_any (p : Option Addr) (cap : Nat) (N : List IT) (r a : Nat) (w : World) (hni : NI w p N) (hS : SafeN N) (hr : r < N.length + 2) (hN : N.length ≤ 65536) (ha : a < 18446744073709551616) :
    Calls Try.prog 36 #[.agg #[.slice p N.length cap, .int .i64 r], .int .u64 a] w (WR N a r w) := by
  have hA := (Below.refl w.heap.size w).alloc (Nat.le_refl _) (.cells #[.slice p N.length cap, .int .i64 r] 24)
  have hnA := heap_alloc_new w (.cells #[.slice p N.length cap, .int .i64 r] 24)
  have Hni0 := Lib.hid hni; clear hni
  have HS := Lib.hid hS; clear hS
  go_enter Try.func36, Try.ntmps36
  go_wp2
  have HA := Lib.hid hA; have HnA := Lib.hid hnA
  clear hA hnA
  go_loopw [5] (fun i wr => ∃ (q : Nat), i = .int .i64 q ∧ q < N.length + 2 ∧ Left N a r q ∧ wr.heap[w.heap.size]? = some (.cells #[.slice p N.length cap, .int .i64 r] 24) ∧ Below w.heap.size w wr) (fun i _ => (intOf i).toNat)
  case atStart => exact ⟨r, rfl, hr, Left.refl _ _ _, HnA.out, HA.out⟩
  case round =>
    obtain ⟨q, rfl, hq, hl, hd, hb⟩ := hrel
    have hni := Hni0.out.below hb
    obtain ⟨d0, d1, -⟩ := cells2 hd
    by_cases hlt : 1 < q
    · obtain ⟨k, rfl⟩ : ∃ k, q = k + 2 := ⟨q - 2, by omega⟩
      have hk : k < N.length := by omega
      obtain ⟨ab, off, rfl, hab, x0, x1, x2⟩ := hni k hk
      obtain ⟨s1, s2, s3⟩ := HS.out k hk
      have hst := fun (l h j : Nat) (e : N[k] = ((l : Int), (h : Int), (j : Int))) => hl.step hk e
      generalize N[k] = x at *
      obtain ⟨l, h, j⟩ := x
      dsimp only at x0 x1 x2 s1 s2 s3
      obtain ⟨l, rfl⟩ : ∃ n : Nat, l = (n : Int) := ⟨l.toNat, by omega⟩
      obtain ⟨h, rfl⟩ : ∃ n : Nat, h = (n : Int) := ⟨h.toNat, by omega⟩
      obtain ⟨j, rfl⟩ : ∃ n : Nat, j = (n : Int) := ⟨j.toNat, by omega⟩
      have hst' := hst l h j rfl
      clear hst hl
      have Hst := Lib.hid hst'; clear hst'
      have hbit := bit_eq a l ha
      have hal := (Below.refl wr.heap.size wr).alloc (Nat.le_refl _) (.cells #[.int .i64 l, .int .i64 h, .int .i64 j] 32)
      have Hd := Lib.hid ((hal.block _ (heap_lt hd)).trans hd)
      have Hbl := Lib.hid (hb.step hal)
      clear hd hal hb hni
      cases hbt : a.testBit l with
      | true =>
        rw [hbt] at hbit Hst
        go_wp2
        exact ⟨⟨h, rfl, by omega, Hst.out, Hd.out, Hbl.out⟩, by simp [intOf]; omega⟩
      | false =>
        rw [hbt] at hbit Hst
        go_wp2
        exact ⟨⟨j, rfl, by omega, Hst.out, Hd.out, Hbl.out⟩, by simp [intOf]; omega⟩
    · have hres : ∀ L, Wf L → N = cN (nodes L) → decide ((q : Int) = 1) = (tr L r).ev (bitsF a) := fun L wL hN => by
        rw [hl L wL hN]
        obtain rfl | rfl : q = 0 ∨ q = 1 := by omega
        · rfl
        · rfl
      have HR := Lib.hid hres
      clear hres hl
      have Hb := Lib.hid hb; clear hb
      obtain rfl | rfl : q = 0 ∨ q = 1 := by omega
      · go_wp2
        go_ret
        exact WR.mk HR.out Hb.out
      · go_wp2
        go_ret
        exact WR.mk HR.out Hb.out
end Go.Proofs.Ytkppcibffbnhoaa
