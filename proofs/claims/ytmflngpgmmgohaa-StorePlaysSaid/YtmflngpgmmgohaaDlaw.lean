/-
  The laws of the disk: walks.
-/
import Derived.Test.YtmflngpgmmgohaaRef
namespace Go.Proofs.Ytmflngpgmmgohaa
open Go.RowKit

theorem heap_new (w : World) (o : Obj) : (w.alloc o).heap[w.heap.size]? = some o := by
  show (w.heap.push o)[w.heap.size]? = _
  simp
theorem Upd.below {b B : Nat} {o : Obj} {w w' : World} (h : Upd b o w w') (hB : B ≤ b) : Below B w w' :=
  ⟨h.os, h.tape, h.output, by rw [h.size]; exact Nat.le_refl _, fun k hk => h.other k (by omega)⟩

def S2 (a b : UInt8) : ByteArray := ⟨#[a, b]⟩
def DA : DM := ⟨10, ByteArray.empty, 0, false, 0, 0, false⟩
def DA1 : DM := ⟨10, ⟨#[97, 98]⟩, 0, false, 0, 0, false⟩
def DA2 : DM := ⟨10, ⟨#[97, 98]⟩, 2, false, 0, 0, false⟩
def DA3 : DM := ⟨10, ⟨#[97, 98, 99, 100]⟩, 2, false, 0, 0, false⟩
def DA4 : DM := ⟨10, ⟨#[97, 98, 99, 100]⟩, 2, true, 0, 1, false⟩
def DA5 : DM := ⟨10, ⟨#[97, 98, 99]⟩, 2, false, -1, 1, true⟩
theorem da0 : DA.Ok := by constructor <;> decide
theorem da1 : DA1.Ok := by constructor <;> decide
theorem da2 : DA2.Ok := by constructor <;> decide
theorem da3 : DA3.Ok := by constructor <;> decide
theorem da4 : DA4.Ok := by constructor <;> decide
theorem step1 : DA.appendD ⟨#[97, 98]⟩ = DA1 ∧ DA.appendC ⟨#[97, 98]⟩ = 0 := ⟨by rfl, by decide⟩
theorem step2 : DA1.syncD = DA2 ∧ DA1.syncC = 0 := ⟨by rfl, by decide⟩
theorem step3 : DA2.appendD ⟨#[99, 100]⟩ = DA3 ∧ DA2.appendC ⟨#[99, 100]⟩ = 0 := ⟨by rfl, by decide⟩
theorem step4 : DA3.armD 0 1 = DA4 := by rfl
theorem step5 : DA4.appendD ⟨#[101, 102]⟩ = DA5 ∧ DA4.appendC ⟨#[101, 102]⟩ = 28 := ⟨by rfl, by decide⟩

set_option maxRecDepth 100000 in
theorem awake37 (w : World) : Calls Try.prog 16 #[] w fun e w' => e = .returned (.bool true) ∧ Below w.heap.size w w' := by
  go_enter Try.func16, Try.ntmps16
  go_wp2_with (first
          | (with_reducible refine Lex.wp_region_lex (by kernel_rfl) (by decide +kernel) ?_)
          | (with_reducible refine Lex.fin_on (by kernel_rfl) ?_))
  refine (new_any 10 _).mono ?_; rintro e w0 ⟨rfl, hw0⟩
  have b0 : w0.heap[w.heap.size]? = some DA.obj := by rw [← hw0]; exact heap_new _ _
  have B0 := Lib.hid ((Below.refl w.heap.size w).alloc (Nat.le_refl _) DA.obj)
  have Hw0 := Lib.hid hw0; clear hw0
  go_wp2_with (first
          | (with_reducible refine Lex.wp_region_lex (by kernel_rfl) (by decide +kernel) ?_)
          | (with_reducible refine Lex.fin_on (by kernel_rfl) ?_))
  refine (append_any _ DA _ _ da0 (by decide) b0).mono ?_; rw [step1.1, step1.2]; rintro e w1 ⟨rfl, u1⟩; have b1 := Lib.hid u1.blk
  go_wp2_with (first
          | (with_reducible refine Lex.wp_region_lex (by kernel_rfl) (by decide +kernel) ?_)
          | (with_reducible refine Lex.fin_on (by kernel_rfl) ?_))
  refine (sync_any _ DA1 _ da1 b1.out).mono ?_; rw [step2.1, step2.2]; rintro e w2 ⟨rfl, u2⟩; have b2 := Lib.hid u2.blk
  go_wp2_with (first
          | (with_reducible refine Lex.wp_region_lex (by kernel_rfl) (by decide +kernel) ?_)
          | (with_reducible refine Lex.fin_on (by kernel_rfl) ?_))
  refine (append_any _ DA2 _ _ da2 (by decide) b2.out).mono ?_; rw [step3.1, step3.2]; rintro e w3 ⟨rfl, u3⟩; have b3 := Lib.hid u3.blk
  go_wp2_with (first
          | (with_reducible refine Lex.wp_region_lex (by kernel_rfl) (by decide +kernel) ?_)
          | (with_reducible refine Lex.fin_on (by kernel_rfl) ?_))
  refine (arm_any _ DA3 0 1 _ b3.out).mono ?_; rw [step4]; rintro e w4 ⟨rfl, u4⟩; have b4 := Lib.hid u4.blk
  go_wp2_with (first
          | (with_reducible refine Lex.wp_region_lex (by kernel_rfl) (by decide +kernel) ?_)
          | (with_reducible refine Lex.fin_on (by kernel_rfl) ?_))
  refine (append_any _ DA4 _ _ da4 (by decide) b4.out).mono ?_; rw [step5.1, step5.2]; rintro e w5 ⟨rfl, u5⟩; have b5 := Lib.hid u5.blk
  go_wp2_with (first
          | (with_reducible refine Lex.wp_region_lex (by kernel_rfl) (by decide +kernel) ?_)
          | (with_reducible refine Lex.fin_on (by kernel_rfl) ?_))
  refine (read_any _ DA5 _ b5.out).mono ?_; rintro e w6 ⟨rfl, rfl⟩
  have hl : DA5.data.toList = [97, 98, 99] := by rw [ByteArray.toList_eq]; rfl
  go_wp2_with (first
          | (with_reducible refine Lex.wp_region_lex (by kernel_rfl) (by decide +kernel) ?_)
          | (with_reducible refine Lex.fin_on (by kernel_rfl) ?_))
  refine (crashed_any _ DA5 _ b5.out).mono ?_; rintro e w6 ⟨rfl, rfl⟩
  go_wp2_with (first
          | (with_reducible refine Lex.wp_region_lex (by kernel_rfl) (by decide +kernel) ?_)
          | (with_reducible refine Lex.fin_on (by kernel_rfl) ?_))
  go_ret
  refine ⟨rfl, ?_⟩
  have hb := B0.out
  rw [show w.alloc DA.obj = w0 from Hw0.out] at hb
  exact ((((hb.trans (u1.below (Nat.le_refl _))).trans (u2.below (Nat.le_refl _))).trans (u3.below (Nat.le_refl _))).trans (u4.below (Nat.le_refl _))).trans (u5.below (Nat.le_refl _))

set_option maxRecDepth 100000 in
theorem nothing_walk (s : ByteArray) (n : Int) (w : World) : Calls Try.prog 5 #[.string s, .int .i64 n] w fun e w' => e = .returned (.bool true) ∧ Below w.heap.size w w' := by
  go_enter Try.func5, Try.ntmps5
  go_wp2_with (first
          | (with_reducible refine Lex.wp_region_lex (by kernel_rfl) (by decide +kernel) ?_)
          | (with_reducible refine Lex.fin_on (by kernel_rfl) ?_))
  refine (nil20 _ _ _).mono ?_; rintro e w1 ⟨rfl, rfl⟩
  go_wp2_with (first
          | (with_reducible refine Lex.wp_region_lex (by kernel_rfl) (by decide +kernel) ?_)
          | (with_reducible refine Lex.fin_on (by kernel_rfl) ?_))
  refine (nil21 _).mono ?_; rintro e w1 ⟨rfl, rfl⟩
  go_wp2_with (first
          | (with_reducible refine Lex.wp_region_lex (by kernel_rfl) (by decide +kernel) ?_)
          | (with_reducible refine Lex.fin_on (by kernel_rfl) ?_))
  refine (nil12 _ _).mono ?_; rintro e w1 ⟨rfl, rfl⟩
  go_wp2_with (first
          | (with_reducible refine Lex.wp_region_lex (by kernel_rfl) (by decide +kernel) ?_)
          | (with_reducible refine Lex.fin_on (by kernel_rfl) ?_))
  refine (nil22 _).mono ?_; rintro e w1 ⟨rfl, rfl⟩
  go_wp2_with (first
          | (with_reducible refine Lex.wp_region_lex (by kernel_rfl) (by decide +kernel) ?_)
          | (with_reducible refine Lex.fin_on (by kernel_rfl) ?_))
  refine (nil23 _ _).mono ?_; rintro e w1 ⟨rfl, rfl⟩
  go_wp2_with (first
          | (with_reducible refine Lex.wp_region_lex (by kernel_rfl) (by decide +kernel) ?_)
          | (with_reducible refine Lex.fin_on (by kernel_rfl) ?_))
  refine (nil13 _).mono ?_; rintro e w1 ⟨rfl, rfl⟩
  go_wp2_with (first
          | (with_reducible refine Lex.wp_region_lex (by kernel_rfl) (by decide +kernel) ?_)
          | (with_reducible refine Lex.fin_on (by kernel_rfl) ?_))
  refine (nil14 _).mono ?_; rintro e w1 ⟨rfl, rfl⟩
  go_wp2_with (first
          | (with_reducible refine Lex.wp_region_lex (by kernel_rfl) (by decide +kernel) ?_)
          | (with_reducible refine Lex.fin_on (by kernel_rfl) ?_))
  refine (nil15 _).mono ?_; rintro e w1 ⟨rfl, rfl⟩
  go_wp2_with (first
          | (with_reducible refine Lex.wp_region_lex (by kernel_rfl) (by decide +kernel) ?_)
          | (with_reducible refine Lex.fin_on (by kernel_rfl) ?_))
  refine (nil24 _).mono ?_; rintro e w1 ⟨rfl, rfl⟩
  go_wp2_with (first
          | (with_reducible refine Lex.wp_region_lex (by kernel_rfl) (by decide +kernel) ?_)
          | (with_reducible refine Lex.fin_on (by kernel_rfl) ?_))
  refine (awake37 _).mono ?_; rintro e w1 ⟨rfl, hb⟩
  go_wp2_with (first
          | (with_reducible refine Lex.wp_region_lex (by kernel_rfl) (by decide +kernel) ?_)
          | (with_reducible refine Lex.fin_on (by kernel_rfl) ?_))
  go_ret
  exact ⟨rfl, hb⟩

theorem cbound (c : Int) : 0 ≤ wrap64 ((IntKind.u64.wrap c).tmod 60) ∧ wrap64 ((IntKind.u64.wrap c).tmod 60) < 60 := by
  have h : IntKind.u64.wrap c = c % 18446744073709551616 := by simp [IntKind.wrap, IntKind.bits, IntKind.signed]
  rw [h]
  have h2 : (c % 18446744073709551616).tmod 60 = (c % 18446744073709551616) % 60 := Int.tmod_eq_emod_of_nonneg (by omega)
  rw [h2]
  unfold wrap64
  omega
theorem cat_empty (A B : ByteArray) : (ByteArray.empty ++ A).toList = A.toList ∧ (ByteArray.empty ++ A ++ B).toList = A.toList ++ B.toList := by
  simp [ByteArray.toList_eq]
theorem room_plain (D : DM) (s : ByteArray) (hD : D.crashed = false) (ha : D.armed = false) :
    ((s.size : Int) ≤ D.cap - D.data.size → D.appendC s = 0 ∧ D.appendD s = { D with data := D.data ++ s }) ∧ (D.cap - D.data.size < (s.size : Int) → D.appendC s = 27 ∧ D.appendD s = D) := by
  constructor
  · intro h
    have : ¬ (D.cap - D.data.size < (s.size : Int)) := by omega
    simp [DM.appendC, DM.appendD, DM.strikes, DM.struck, hD, ha, this]
  · intro h
    simp [DM.appendC, DM.appendD, hD, h]

set_option maxRecDepth 100000 in
set_option maxHeartbeats 8000000 in
theorem room_walk (c : Int) (a b : ByteArray) (w : World) (ha : a.size ≤ 9223372036854775807) (hb : b.size ≤ 9223372036854775807) : Calls Try.prog 3 #[.int .i64 c, .string a, .string b] w fun e w' => e = .returned (.bool true) ∧ Below w.heap.size w w' := by
  by_cases h1 : a.size ≤ 50
  · skip
    by_cases h2 : b.size ≤ 50
    · skip
      go_enter Try.func3, Try.ntmps3
      go_wp2_with (first
          | (with_reducible refine Lex.wp_region_lex (by kernel_rfl) (by decide +kernel) ?_)
          | (with_reducible refine Lex.fin_on (by kernel_rfl) ?_))
      generalize a = A at *
      generalize b = B at *
      have hC := cbound c
      generalize wrap64 ((IntKind.u64.wrap c).tmod 60) = C at *
      obtain ⟨hC0, hC1⟩ := hC
      refine (new_any C _).mono ?_; rintro e w0 ⟨rfl, hw0⟩
      rw [show min (max C 0) 16777216 = C by omega] at hw0
      have b0 : w0.heap[w.heap.size]? = some (DM.obj ⟨C, ByteArray.empty, 0, false, 0, 0, false⟩) := by rw [← hw0]; exact heap_new _ _
      have B0 : Hid (Below w.heap.size w w0) := by rw [← hw0]; exact ((Below.refl w.heap.size w).drew.alloc (Nat.le_refl _) _)
      clear hw0
      have ok0 : (⟨C, ByteArray.empty, 0, false, 0, 0, false⟩ : DM).Ok := by constructor <;> simp <;> omega
      have e0 : ((⟨C, ByteArray.empty, 0, false, 0, 0, false⟩ : DM).data.size : Int) = 0 := by simp
      obtain ⟨p1, p2⟩ := room_plain ⟨C, ByteArray.empty, 0, false, 0, 0, false⟩ A rfl rfl
      dsimp only at p1 p2
      by_cases fa : (A.size : Int) ≤ C
      · obtain ⟨q1, q2⟩ := p1 (by simp; omega)
        clear p1 p2 e0
        have Q1 := Lib.hid q1; have Q2 := Lib.hid q2; clear q1 q2
        go_wp2_with (first
          | (with_reducible refine Lex.wp_region_lex (by kernel_rfl) (by decide +kernel) ?_)
          | (with_reducible refine Lex.fin_on (by kernel_rfl) ?_))
        refine (append_any _ _ A _ ok0 (by omega) b0).mono ?_; rw [Q1.out, Q2.out]; rintro e w1 ⟨rfl, u1⟩; have b1 := Lib.hid u1.blk
        have ok1 : (⟨C, (ByteArray.empty ++ A), 0, false, 0, 0, false⟩ : DM).Ok := by constructor <;> simp <;> omega
        obtain ⟨p1, p2⟩ := room_plain ⟨C, (ByteArray.empty ++ A), 0, false, 0, 0, false⟩ B rfl rfl
        dsimp only at p1 p2
        by_cases fb : (A.size : Int) + B.size ≤ C
        · obtain ⟨q1, q2⟩ := p1 (by simp; omega)
          clear p1 p2
          have R1 := Lib.hid q1; have R2 := Lib.hid q2; clear q1 q2
          go_wp2_with (first
          | (with_reducible refine Lex.wp_region_lex (by kernel_rfl) (by decide +kernel) ?_)
          | (with_reducible refine Lex.fin_on (by kernel_rfl) ?_))
          refine (append_any _ _ B _ ok1 (by omega) b1.out).mono ?_; rw [R1.out, R2.out]; rintro e w2 ⟨rfl, u2⟩; have b2 := Lib.hid u2.blk
          go_wp2_with (first
          | (with_reducible refine Lex.wp_region_lex (by kernel_rfl) (by decide +kernel) ?_)
          | (with_reducible refine Lex.fin_on (by kernel_rfl) ?_))
          refine (read_any _ _ _ b2.out).mono ?_; rintro e w3 ⟨rfl, rfl⟩
          have hl := cat_empty A B
          go_wp2_with (first
          | (with_reducible refine Lex.wp_region_lex (by kernel_rfl) (by decide +kernel) ?_)
          | (with_reducible refine Lex.fin_on (by kernel_rfl) ?_))
          refine (len_any _ _ _ b2.out).mono ?_; rintro e w3 ⟨rfl, rfl⟩
          go_wp2_with (first
          | (with_reducible refine Lex.wp_region_lex (by kernel_rfl) (by decide +kernel) ?_)
          | (with_reducible refine Lex.fin_on (by kernel_rfl) ?_))
          refine (synced_any _ _ _ b2.out).mono ?_; rintro e w3 ⟨rfl, rfl⟩
          go_wp2_with (first
          | (with_reducible refine Lex.wp_region_lex (by kernel_rfl) (by decide +kernel) ?_)
          | (with_reducible refine Lex.fin_on (by kernel_rfl) ?_))
          refine (awake37 _).mono ?_; rintro e w3 ⟨rfl, hb3⟩
          go_wp2_with (first
          | (with_reducible refine Lex.wp_region_lex (by kernel_rfl) (by decide +kernel) ?_)
          | (with_reducible refine Lex.fin_on (by kernel_rfl) ?_))
          go_ret
          exact ⟨rfl, ((B0.out.trans (u1.below (Nat.le_refl _))).trans (u2.below (Nat.le_refl _))).trans (hb3.mono (by rw [u2.size, u1.size]; exact B0.out.size))⟩
        · obtain ⟨q1, q2⟩ := p2 (by simp; omega)
          clear p1 p2
          have R1 := Lib.hid q1; have R2 := Lib.hid q2; clear q1 q2
          have fb' : decide ((A.size : Int) + B.size ≤ C) = false := by simpa using fb
          clear fb
          go_wp2_with (first
          | (with_reducible refine Lex.wp_region_lex (by kernel_rfl) (by decide +kernel) ?_)
          | (with_reducible refine Lex.fin_on (by kernel_rfl) ?_))
          refine (append_any _ _ B _ ok1 (by omega) b1.out).mono ?_; rw [R1.out, R2.out]; rintro e w2 ⟨rfl, u2⟩; have b2 := Lib.hid u2.blk
          go_wp2_with (first
          | (with_reducible refine Lex.wp_region_lex (by kernel_rfl) (by decide +kernel) ?_)
          | (with_reducible refine Lex.fin_on (by kernel_rfl) ?_))
          refine (read_any _ _ _ b2.out).mono ?_; rintro e w3 ⟨rfl, rfl⟩
          have hl := cat_empty A B
          go_wp2_with (first
          | (with_reducible refine Lex.wp_region_lex (by kernel_rfl) (by decide +kernel) ?_)
          | (with_reducible refine Lex.fin_on (by kernel_rfl) ?_))
          refine (len_any _ _ _ b2.out).mono ?_; rintro e w3 ⟨rfl, rfl⟩
          go_wp2_with (first
          | (with_reducible refine Lex.wp_region_lex (by kernel_rfl) (by decide +kernel) ?_)
          | (with_reducible refine Lex.fin_on (by kernel_rfl) ?_))
          refine (synced_any _ _ _ b2.out).mono ?_; rintro e w3 ⟨rfl, rfl⟩
          go_wp2_with (first
          | (with_reducible refine Lex.wp_region_lex (by kernel_rfl) (by decide +kernel) ?_)
          | (with_reducible refine Lex.fin_on (by kernel_rfl) ?_))
          refine (awake37 _).mono ?_; rintro e w3 ⟨rfl, hb3⟩
          go_wp2_with (first
          | (with_reducible refine Lex.wp_region_lex (by kernel_rfl) (by decide +kernel) ?_)
          | (with_reducible refine Lex.fin_on (by kernel_rfl) ?_))
          go_ret
          exact ⟨rfl, ((B0.out.trans (u1.below (Nat.le_refl _))).trans (u2.below (Nat.le_refl _))).trans (hb3.mono (by rw [u2.size, u1.size]; exact B0.out.size))⟩
      · obtain ⟨q1, q2⟩ := p2 (by simp; omega)
        clear p1 p2 e0
        have Q1 := Lib.hid q1; have Q2 := Lib.hid q2; clear q1 q2
        have fa' : decide ((A.size : Int) ≤ C) = false := by simpa using fa
        clear fa
        go_wp2_with (first
          | (with_reducible refine Lex.wp_region_lex (by kernel_rfl) (by decide +kernel) ?_)
          | (with_reducible refine Lex.fin_on (by kernel_rfl) ?_))
        refine (append_any _ _ A _ ok0 (by omega) b0).mono ?_; rw [Q1.out, Q2.out]; rintro e w1 ⟨rfl, u1⟩; have b1 := Lib.hid u1.blk
        have ok1 : (⟨C, ByteArray.empty, 0, false, 0, 0, false⟩ : DM).Ok := by constructor <;> simp <;> omega
        obtain ⟨p1, p2⟩ := room_plain ⟨C, ByteArray.empty, 0, false, 0, 0, false⟩ B rfl rfl
        dsimp only at p1 p2
        by_cases fb : 0 + B.size ≤ C
        · obtain ⟨q1, q2⟩ := p1 (by simp; omega)
          clear p1 p2
          have R1 := Lib.hid q1; have R2 := Lib.hid q2; clear q1 q2
          rw [Int.zero_add] at fb
          go_wp2_with (first
          | (with_reducible refine Lex.wp_region_lex (by kernel_rfl) (by decide +kernel) ?_)
          | (with_reducible refine Lex.fin_on (by kernel_rfl) ?_))
          refine (append_any _ _ B _ ok1 (by omega) b1.out).mono ?_; rw [R1.out, R2.out]; rintro e w2 ⟨rfl, u2⟩; have b2 := Lib.hid u2.blk
          go_wp2_with (first
          | (with_reducible refine Lex.wp_region_lex (by kernel_rfl) (by decide +kernel) ?_)
          | (with_reducible refine Lex.fin_on (by kernel_rfl) ?_))
          refine (read_any _ _ _ b2.out).mono ?_; rintro e w3 ⟨rfl, rfl⟩
          have hl := cat_empty A B
          go_wp2_with (first
          | (with_reducible refine Lex.wp_region_lex (by kernel_rfl) (by decide +kernel) ?_)
          | (with_reducible refine Lex.fin_on (by kernel_rfl) ?_))
          refine (len_any _ _ _ b2.out).mono ?_; rintro e w3 ⟨rfl, rfl⟩
          go_wp2_with (first
          | (with_reducible refine Lex.wp_region_lex (by kernel_rfl) (by decide +kernel) ?_)
          | (with_reducible refine Lex.fin_on (by kernel_rfl) ?_))
          refine (synced_any _ _ _ b2.out).mono ?_; rintro e w3 ⟨rfl, rfl⟩
          go_wp2_with (first
          | (with_reducible refine Lex.wp_region_lex (by kernel_rfl) (by decide +kernel) ?_)
          | (with_reducible refine Lex.fin_on (by kernel_rfl) ?_))
          refine (awake37 _).mono ?_; rintro e w3 ⟨rfl, hb3⟩
          go_wp2_with (first
          | (with_reducible refine Lex.wp_region_lex (by kernel_rfl) (by decide +kernel) ?_)
          | (with_reducible refine Lex.fin_on (by kernel_rfl) ?_))
          go_ret
          exact ⟨rfl, ((B0.out.trans (u1.below (Nat.le_refl _))).trans (u2.below (Nat.le_refl _))).trans (hb3.mono (by rw [u2.size, u1.size]; exact B0.out.size))⟩
        · obtain ⟨q1, q2⟩ := p2 (by simp; omega)
          clear p1 p2
          have R1 := Lib.hid q1; have R2 := Lib.hid q2; clear q1 q2
          rw [Int.zero_add] at fb
          have fb' : decide ((B.size : Int) ≤ C) = false := by simpa using fb
          clear fb
          go_wp2_with (first
          | (with_reducible refine Lex.wp_region_lex (by kernel_rfl) (by decide +kernel) ?_)
          | (with_reducible refine Lex.fin_on (by kernel_rfl) ?_))
          refine (append_any _ _ B _ ok1 (by omega) b1.out).mono ?_; rw [R1.out, R2.out]; rintro e w2 ⟨rfl, u2⟩; have b2 := Lib.hid u2.blk
          go_wp2_with (first
          | (with_reducible refine Lex.wp_region_lex (by kernel_rfl) (by decide +kernel) ?_)
          | (with_reducible refine Lex.fin_on (by kernel_rfl) ?_))
          refine (read_any _ _ _ b2.out).mono ?_; rintro e w3 ⟨rfl, rfl⟩
          have hl := cat_empty A B
          go_wp2_with (first
          | (with_reducible refine Lex.wp_region_lex (by kernel_rfl) (by decide +kernel) ?_)
          | (with_reducible refine Lex.fin_on (by kernel_rfl) ?_))
          refine (len_any _ _ _ b2.out).mono ?_; rintro e w3 ⟨rfl, rfl⟩
          go_wp2_with (first
          | (with_reducible refine Lex.wp_region_lex (by kernel_rfl) (by decide +kernel) ?_)
          | (with_reducible refine Lex.fin_on (by kernel_rfl) ?_))
          refine (synced_any _ _ _ b2.out).mono ?_; rintro e w3 ⟨rfl, rfl⟩
          go_wp2_with (first
          | (with_reducible refine Lex.wp_region_lex (by kernel_rfl) (by decide +kernel) ?_)
          | (with_reducible refine Lex.fin_on (by kernel_rfl) ?_))
          refine (awake37 _).mono ?_; rintro e w3 ⟨rfl, hb3⟩
          go_wp2_with (first
          | (with_reducible refine Lex.wp_region_lex (by kernel_rfl) (by decide +kernel) ?_)
          | (with_reducible refine Lex.fin_on (by kernel_rfl) ?_))
          go_ret
          exact ⟨rfl, ((B0.out.trans (u1.below (Nat.le_refl _))).trans (u2.below (Nat.le_refl _))).trans (hb3.mono (by rw [u2.size, u1.size]; exact B0.out.size))⟩
    · have hB' : (b.extract 0 50).size ≤ 50 := by simp; omega
      go_enter Try.func3, Try.ntmps3
      go_wp2_with (first
          | (with_reducible refine Lex.wp_region_lex (by kernel_rfl) (by decide +kernel) ?_)
          | (with_reducible refine Lex.fin_on (by kernel_rfl) ?_))
      generalize a = A at *
      generalize b.extract 0 50 = B at *
      have hC := cbound c
      generalize wrap64 ((IntKind.u64.wrap c).tmod 60) = C at *
      obtain ⟨hC0, hC1⟩ := hC
      refine (new_any C _).mono ?_; rintro e w0 ⟨rfl, hw0⟩
      rw [show min (max C 0) 16777216 = C by omega] at hw0
      have b0 : w0.heap[w.heap.size]? = some (DM.obj ⟨C, ByteArray.empty, 0, false, 0, 0, false⟩) := by rw [← hw0]; exact heap_new _ _
      have B0 : Hid (Below w.heap.size w w0) := by rw [← hw0]; exact ((Below.refl w.heap.size w).drew.alloc (Nat.le_refl _) _)
      clear hw0
      have ok0 : (⟨C, ByteArray.empty, 0, false, 0, 0, false⟩ : DM).Ok := by constructor <;> simp <;> omega
      have e0 : ((⟨C, ByteArray.empty, 0, false, 0, 0, false⟩ : DM).data.size : Int) = 0 := by simp
      obtain ⟨p1, p2⟩ := room_plain ⟨C, ByteArray.empty, 0, false, 0, 0, false⟩ A rfl rfl
      dsimp only at p1 p2
      by_cases fa : (A.size : Int) ≤ C
      · obtain ⟨q1, q2⟩ := p1 (by simp; omega)
        clear p1 p2 e0
        have Q1 := Lib.hid q1; have Q2 := Lib.hid q2; clear q1 q2
        go_wp2_with (first
          | (with_reducible refine Lex.wp_region_lex (by kernel_rfl) (by decide +kernel) ?_)
          | (with_reducible refine Lex.fin_on (by kernel_rfl) ?_))
        refine (append_any _ _ A _ ok0 (by omega) b0).mono ?_; rw [Q1.out, Q2.out]; rintro e w1 ⟨rfl, u1⟩; have b1 := Lib.hid u1.blk
        have ok1 : (⟨C, (ByteArray.empty ++ A), 0, false, 0, 0, false⟩ : DM).Ok := by constructor <;> simp <;> omega
        obtain ⟨p1, p2⟩ := room_plain ⟨C, (ByteArray.empty ++ A), 0, false, 0, 0, false⟩ B rfl rfl
        dsimp only at p1 p2
        by_cases fb : (A.size : Int) + B.size ≤ C
        · obtain ⟨q1, q2⟩ := p1 (by simp; omega)
          clear p1 p2
          have R1 := Lib.hid q1; have R2 := Lib.hid q2; clear q1 q2
          go_wp2_with (first
          | (with_reducible refine Lex.wp_region_lex (by kernel_rfl) (by decide +kernel) ?_)
          | (with_reducible refine Lex.fin_on (by kernel_rfl) ?_))
          refine (append_any _ _ B _ ok1 (by omega) b1.out).mono ?_; rw [R1.out, R2.out]; rintro e w2 ⟨rfl, u2⟩; have b2 := Lib.hid u2.blk
          go_wp2_with (first
          | (with_reducible refine Lex.wp_region_lex (by kernel_rfl) (by decide +kernel) ?_)
          | (with_reducible refine Lex.fin_on (by kernel_rfl) ?_))
          refine (read_any _ _ _ b2.out).mono ?_; rintro e w3 ⟨rfl, rfl⟩
          have hl := cat_empty A B
          go_wp2_with (first
          | (with_reducible refine Lex.wp_region_lex (by kernel_rfl) (by decide +kernel) ?_)
          | (with_reducible refine Lex.fin_on (by kernel_rfl) ?_))
          refine (len_any _ _ _ b2.out).mono ?_; rintro e w3 ⟨rfl, rfl⟩
          go_wp2_with (first
          | (with_reducible refine Lex.wp_region_lex (by kernel_rfl) (by decide +kernel) ?_)
          | (with_reducible refine Lex.fin_on (by kernel_rfl) ?_))
          refine (synced_any _ _ _ b2.out).mono ?_; rintro e w3 ⟨rfl, rfl⟩
          go_wp2_with (first
          | (with_reducible refine Lex.wp_region_lex (by kernel_rfl) (by decide +kernel) ?_)
          | (with_reducible refine Lex.fin_on (by kernel_rfl) ?_))
          refine (awake37 _).mono ?_; rintro e w3 ⟨rfl, hb3⟩
          go_wp2_with (first
          | (with_reducible refine Lex.wp_region_lex (by kernel_rfl) (by decide +kernel) ?_)
          | (with_reducible refine Lex.fin_on (by kernel_rfl) ?_))
          go_ret
          exact ⟨rfl, ((B0.out.trans (u1.below (Nat.le_refl _))).trans (u2.below (Nat.le_refl _))).trans (hb3.mono (by rw [u2.size, u1.size]; exact B0.out.size))⟩
        · obtain ⟨q1, q2⟩ := p2 (by simp; omega)
          clear p1 p2
          have R1 := Lib.hid q1; have R2 := Lib.hid q2; clear q1 q2
          have fb' : decide ((A.size : Int) + B.size ≤ C) = false := by simpa using fb
          clear fb
          go_wp2_with (first
          | (with_reducible refine Lex.wp_region_lex (by kernel_rfl) (by decide +kernel) ?_)
          | (with_reducible refine Lex.fin_on (by kernel_rfl) ?_))
          refine (append_any _ _ B _ ok1 (by omega) b1.out).mono ?_; rw [R1.out, R2.out]; rintro e w2 ⟨rfl, u2⟩; have b2 := Lib.hid u2.blk
          go_wp2_with (first
          | (with_reducible refine Lex.wp_region_lex (by kernel_rfl) (by decide +kernel) ?_)
          | (with_reducible refine Lex.fin_on (by kernel_rfl) ?_))
          refine (read_any _ _ _ b2.out).mono ?_; rintro e w3 ⟨rfl, rfl⟩
          have hl := cat_empty A B
          go_wp2_with (first
          | (with_reducible refine Lex.wp_region_lex (by kernel_rfl) (by decide +kernel) ?_)
          | (with_reducible refine Lex.fin_on (by kernel_rfl) ?_))
          refine (len_any _ _ _ b2.out).mono ?_; rintro e w3 ⟨rfl, rfl⟩
          go_wp2_with (first
          | (with_reducible refine Lex.wp_region_lex (by kernel_rfl) (by decide +kernel) ?_)
          | (with_reducible refine Lex.fin_on (by kernel_rfl) ?_))
          refine (synced_any _ _ _ b2.out).mono ?_; rintro e w3 ⟨rfl, rfl⟩
          go_wp2_with (first
          | (with_reducible refine Lex.wp_region_lex (by kernel_rfl) (by decide +kernel) ?_)
          | (with_reducible refine Lex.fin_on (by kernel_rfl) ?_))
          refine (awake37 _).mono ?_; rintro e w3 ⟨rfl, hb3⟩
          go_wp2_with (first
          | (with_reducible refine Lex.wp_region_lex (by kernel_rfl) (by decide +kernel) ?_)
          | (with_reducible refine Lex.fin_on (by kernel_rfl) ?_))
          go_ret
          exact ⟨rfl, ((B0.out.trans (u1.below (Nat.le_refl _))).trans (u2.below (Nat.le_refl _))).trans (hb3.mono (by rw [u2.size, u1.size]; exact B0.out.size))⟩
      · obtain ⟨q1, q2⟩ := p2 (by simp; omega)
        clear p1 p2 e0
        have Q1 := Lib.hid q1; have Q2 := Lib.hid q2; clear q1 q2
        have fa' : decide ((A.size : Int) ≤ C) = false := by simpa using fa
        clear fa
        go_wp2_with (first
          | (with_reducible refine Lex.wp_region_lex (by kernel_rfl) (by decide +kernel) ?_)
          | (with_reducible refine Lex.fin_on (by kernel_rfl) ?_))
        refine (append_any _ _ A _ ok0 (by omega) b0).mono ?_; rw [Q1.out, Q2.out]; rintro e w1 ⟨rfl, u1⟩; have b1 := Lib.hid u1.blk
        have ok1 : (⟨C, ByteArray.empty, 0, false, 0, 0, false⟩ : DM).Ok := by constructor <;> simp <;> omega
        obtain ⟨p1, p2⟩ := room_plain ⟨C, ByteArray.empty, 0, false, 0, 0, false⟩ B rfl rfl
        dsimp only at p1 p2
        by_cases fb : 0 + B.size ≤ C
        · obtain ⟨q1, q2⟩ := p1 (by simp; omega)
          clear p1 p2
          have R1 := Lib.hid q1; have R2 := Lib.hid q2; clear q1 q2
          rw [Int.zero_add] at fb
          go_wp2_with (first
          | (with_reducible refine Lex.wp_region_lex (by kernel_rfl) (by decide +kernel) ?_)
          | (with_reducible refine Lex.fin_on (by kernel_rfl) ?_))
          refine (append_any _ _ B _ ok1 (by omega) b1.out).mono ?_; rw [R1.out, R2.out]; rintro e w2 ⟨rfl, u2⟩; have b2 := Lib.hid u2.blk
          go_wp2_with (first
          | (with_reducible refine Lex.wp_region_lex (by kernel_rfl) (by decide +kernel) ?_)
          | (with_reducible refine Lex.fin_on (by kernel_rfl) ?_))
          refine (read_any _ _ _ b2.out).mono ?_; rintro e w3 ⟨rfl, rfl⟩
          have hl := cat_empty A B
          go_wp2_with (first
          | (with_reducible refine Lex.wp_region_lex (by kernel_rfl) (by decide +kernel) ?_)
          | (with_reducible refine Lex.fin_on (by kernel_rfl) ?_))
          refine (len_any _ _ _ b2.out).mono ?_; rintro e w3 ⟨rfl, rfl⟩
          go_wp2_with (first
          | (with_reducible refine Lex.wp_region_lex (by kernel_rfl) (by decide +kernel) ?_)
          | (with_reducible refine Lex.fin_on (by kernel_rfl) ?_))
          refine (synced_any _ _ _ b2.out).mono ?_; rintro e w3 ⟨rfl, rfl⟩
          go_wp2_with (first
          | (with_reducible refine Lex.wp_region_lex (by kernel_rfl) (by decide +kernel) ?_)
          | (with_reducible refine Lex.fin_on (by kernel_rfl) ?_))
          refine (awake37 _).mono ?_; rintro e w3 ⟨rfl, hb3⟩
          go_wp2_with (first
          | (with_reducible refine Lex.wp_region_lex (by kernel_rfl) (by decide +kernel) ?_)
          | (with_reducible refine Lex.fin_on (by kernel_rfl) ?_))
          go_ret
          exact ⟨rfl, ((B0.out.trans (u1.below (Nat.le_refl _))).trans (u2.below (Nat.le_refl _))).trans (hb3.mono (by rw [u2.size, u1.size]; exact B0.out.size))⟩
        · obtain ⟨q1, q2⟩ := p2 (by simp; omega)
          clear p1 p2
          have R1 := Lib.hid q1; have R2 := Lib.hid q2; clear q1 q2
          rw [Int.zero_add] at fb
          have fb' : decide ((B.size : Int) ≤ C) = false := by simpa using fb
          clear fb
          go_wp2_with (first
          | (with_reducible refine Lex.wp_region_lex (by kernel_rfl) (by decide +kernel) ?_)
          | (with_reducible refine Lex.fin_on (by kernel_rfl) ?_))
          refine (append_any _ _ B _ ok1 (by omega) b1.out).mono ?_; rw [R1.out, R2.out]; rintro e w2 ⟨rfl, u2⟩; have b2 := Lib.hid u2.blk
          go_wp2_with (first
          | (with_reducible refine Lex.wp_region_lex (by kernel_rfl) (by decide +kernel) ?_)
          | (with_reducible refine Lex.fin_on (by kernel_rfl) ?_))
          refine (read_any _ _ _ b2.out).mono ?_; rintro e w3 ⟨rfl, rfl⟩
          have hl := cat_empty A B
          go_wp2_with (first
          | (with_reducible refine Lex.wp_region_lex (by kernel_rfl) (by decide +kernel) ?_)
          | (with_reducible refine Lex.fin_on (by kernel_rfl) ?_))
          refine (len_any _ _ _ b2.out).mono ?_; rintro e w3 ⟨rfl, rfl⟩
          go_wp2_with (first
          | (with_reducible refine Lex.wp_region_lex (by kernel_rfl) (by decide +kernel) ?_)
          | (with_reducible refine Lex.fin_on (by kernel_rfl) ?_))
          refine (synced_any _ _ _ b2.out).mono ?_; rintro e w3 ⟨rfl, rfl⟩
          go_wp2_with (first
          | (with_reducible refine Lex.wp_region_lex (by kernel_rfl) (by decide +kernel) ?_)
          | (with_reducible refine Lex.fin_on (by kernel_rfl) ?_))
          refine (awake37 _).mono ?_; rintro e w3 ⟨rfl, hb3⟩
          go_wp2_with (first
          | (with_reducible refine Lex.wp_region_lex (by kernel_rfl) (by decide +kernel) ?_)
          | (with_reducible refine Lex.fin_on (by kernel_rfl) ?_))
          go_ret
          exact ⟨rfl, ((B0.out.trans (u1.below (Nat.le_refl _))).trans (u2.below (Nat.le_refl _))).trans (hb3.mono (by rw [u2.size, u1.size]; exact B0.out.size))⟩
  · have hA' : (a.extract 0 50).size ≤ 50 := by simp; omega
    by_cases h2 : b.size ≤ 50
    · skip
      go_enter Try.func3, Try.ntmps3
      go_wp2_with (first
          | (with_reducible refine Lex.wp_region_lex (by kernel_rfl) (by decide +kernel) ?_)
          | (with_reducible refine Lex.fin_on (by kernel_rfl) ?_))
      generalize a.extract 0 50 = A at *
      generalize b = B at *
      have hC := cbound c
      generalize wrap64 ((IntKind.u64.wrap c).tmod 60) = C at *
      obtain ⟨hC0, hC1⟩ := hC
      refine (new_any C _).mono ?_; rintro e w0 ⟨rfl, hw0⟩
      rw [show min (max C 0) 16777216 = C by omega] at hw0
      have b0 : w0.heap[w.heap.size]? = some (DM.obj ⟨C, ByteArray.empty, 0, false, 0, 0, false⟩) := by rw [← hw0]; exact heap_new _ _
      have B0 : Hid (Below w.heap.size w w0) := by rw [← hw0]; exact ((Below.refl w.heap.size w).drew.alloc (Nat.le_refl _) _)
      clear hw0
      have ok0 : (⟨C, ByteArray.empty, 0, false, 0, 0, false⟩ : DM).Ok := by constructor <;> simp <;> omega
      have e0 : ((⟨C, ByteArray.empty, 0, false, 0, 0, false⟩ : DM).data.size : Int) = 0 := by simp
      obtain ⟨p1, p2⟩ := room_plain ⟨C, ByteArray.empty, 0, false, 0, 0, false⟩ A rfl rfl
      dsimp only at p1 p2
      by_cases fa : (A.size : Int) ≤ C
      · obtain ⟨q1, q2⟩ := p1 (by simp; omega)
        clear p1 p2 e0
        have Q1 := Lib.hid q1; have Q2 := Lib.hid q2; clear q1 q2
        go_wp2_with (first
          | (with_reducible refine Lex.wp_region_lex (by kernel_rfl) (by decide +kernel) ?_)
          | (with_reducible refine Lex.fin_on (by kernel_rfl) ?_))
        refine (append_any _ _ A _ ok0 (by omega) b0).mono ?_; rw [Q1.out, Q2.out]; rintro e w1 ⟨rfl, u1⟩; have b1 := Lib.hid u1.blk
        have ok1 : (⟨C, (ByteArray.empty ++ A), 0, false, 0, 0, false⟩ : DM).Ok := by constructor <;> simp <;> omega
        obtain ⟨p1, p2⟩ := room_plain ⟨C, (ByteArray.empty ++ A), 0, false, 0, 0, false⟩ B rfl rfl
        dsimp only at p1 p2
        by_cases fb : (A.size : Int) + B.size ≤ C
        · obtain ⟨q1, q2⟩ := p1 (by simp; omega)
          clear p1 p2
          have R1 := Lib.hid q1; have R2 := Lib.hid q2; clear q1 q2
          go_wp2_with (first
          | (with_reducible refine Lex.wp_region_lex (by kernel_rfl) (by decide +kernel) ?_)
          | (with_reducible refine Lex.fin_on (by kernel_rfl) ?_))
          refine (append_any _ _ B _ ok1 (by omega) b1.out).mono ?_; rw [R1.out, R2.out]; rintro e w2 ⟨rfl, u2⟩; have b2 := Lib.hid u2.blk
          go_wp2_with (first
          | (with_reducible refine Lex.wp_region_lex (by kernel_rfl) (by decide +kernel) ?_)
          | (with_reducible refine Lex.fin_on (by kernel_rfl) ?_))
          refine (read_any _ _ _ b2.out).mono ?_; rintro e w3 ⟨rfl, rfl⟩
          have hl := cat_empty A B
          go_wp2_with (first
          | (with_reducible refine Lex.wp_region_lex (by kernel_rfl) (by decide +kernel) ?_)
          | (with_reducible refine Lex.fin_on (by kernel_rfl) ?_))
          refine (len_any _ _ _ b2.out).mono ?_; rintro e w3 ⟨rfl, rfl⟩
          go_wp2_with (first
          | (with_reducible refine Lex.wp_region_lex (by kernel_rfl) (by decide +kernel) ?_)
          | (with_reducible refine Lex.fin_on (by kernel_rfl) ?_))
          refine (synced_any _ _ _ b2.out).mono ?_; rintro e w3 ⟨rfl, rfl⟩
          go_wp2_with (first
          | (with_reducible refine Lex.wp_region_lex (by kernel_rfl) (by decide +kernel) ?_)
          | (with_reducible refine Lex.fin_on (by kernel_rfl) ?_))
          refine (awake37 _).mono ?_; rintro e w3 ⟨rfl, hb3⟩
          go_wp2_with (first
          | (with_reducible refine Lex.wp_region_lex (by kernel_rfl) (by decide +kernel) ?_)
          | (with_reducible refine Lex.fin_on (by kernel_rfl) ?_))
          go_ret
          exact ⟨rfl, ((B0.out.trans (u1.below (Nat.le_refl _))).trans (u2.below (Nat.le_refl _))).trans (hb3.mono (by rw [u2.size, u1.size]; exact B0.out.size))⟩
        · obtain ⟨q1, q2⟩ := p2 (by simp; omega)
          clear p1 p2
          have R1 := Lib.hid q1; have R2 := Lib.hid q2; clear q1 q2
          have fb' : decide ((A.size : Int) + B.size ≤ C) = false := by simpa using fb
          clear fb
          go_wp2_with (first
          | (with_reducible refine Lex.wp_region_lex (by kernel_rfl) (by decide +kernel) ?_)
          | (with_reducible refine Lex.fin_on (by kernel_rfl) ?_))
          refine (append_any _ _ B _ ok1 (by omega) b1.out).mono ?_; rw [R1.out, R2.out]; rintro e w2 ⟨rfl, u2⟩; have b2 := Lib.hid u2.blk
          go_wp2_with (first
          | (with_reducible refine Lex.wp_region_lex (by kernel_rfl) (by decide +kernel) ?_)
          | (with_reducible refine Lex.fin_on (by kernel_rfl) ?_))
          refine (read_any _ _ _ b2.out).mono ?_; rintro e w3 ⟨rfl, rfl⟩
          have hl := cat_empty A B
          go_wp2_with (first
          | (with_reducible refine Lex.wp_region_lex (by kernel_rfl) (by decide +kernel) ?_)
          | (with_reducible refine Lex.fin_on (by kernel_rfl) ?_))
          refine (len_any _ _ _ b2.out).mono ?_; rintro e w3 ⟨rfl, rfl⟩
          go_wp2_with (first
          | (with_reducible refine Lex.wp_region_lex (by kernel_rfl) (by decide +kernel) ?_)
          | (with_reducible refine Lex.fin_on (by kernel_rfl) ?_))
          refine (synced_any _ _ _ b2.out).mono ?_; rintro e w3 ⟨rfl, rfl⟩
          go_wp2_with (first
          | (with_reducible refine Lex.wp_region_lex (by kernel_rfl) (by decide +kernel) ?_)
          | (with_reducible refine Lex.fin_on (by kernel_rfl) ?_))
          refine (awake37 _).mono ?_; rintro e w3 ⟨rfl, hb3⟩
          go_wp2_with (first
          | (with_reducible refine Lex.wp_region_lex (by kernel_rfl) (by decide +kernel) ?_)
          | (with_reducible refine Lex.fin_on (by kernel_rfl) ?_))
          go_ret
          exact ⟨rfl, ((B0.out.trans (u1.below (Nat.le_refl _))).trans (u2.below (Nat.le_refl _))).trans (hb3.mono (by rw [u2.size, u1.size]; exact B0.out.size))⟩
      · obtain ⟨q1, q2⟩ := p2 (by simp; omega)
        clear p1 p2 e0
        have Q1 := Lib.hid q1; have Q2 := Lib.hid q2; clear q1 q2
        have fa' : decide ((A.size : Int) ≤ C) = false := by simpa using fa
        clear fa
        go_wp2_with (first
          | (with_reducible refine Lex.wp_region_lex (by kernel_rfl) (by decide +kernel) ?_)
          | (with_reducible refine Lex.fin_on (by kernel_rfl) ?_))
        refine (append_any _ _ A _ ok0 (by omega) b0).mono ?_; rw [Q1.out, Q2.out]; rintro e w1 ⟨rfl, u1⟩; have b1 := Lib.hid u1.blk
        have ok1 : (⟨C, ByteArray.empty, 0, false, 0, 0, false⟩ : DM).Ok := by constructor <;> simp <;> omega
        obtain ⟨p1, p2⟩ := room_plain ⟨C, ByteArray.empty, 0, false, 0, 0, false⟩ B rfl rfl
        dsimp only at p1 p2
        by_cases fb : 0 + B.size ≤ C
        · obtain ⟨q1, q2⟩ := p1 (by simp; omega)
          clear p1 p2
          have R1 := Lib.hid q1; have R2 := Lib.hid q2; clear q1 q2
          rw [Int.zero_add] at fb
          go_wp2_with (first
          | (with_reducible refine Lex.wp_region_lex (by kernel_rfl) (by decide +kernel) ?_)
          | (with_reducible refine Lex.fin_on (by kernel_rfl) ?_))
          refine (append_any _ _ B _ ok1 (by omega) b1.out).mono ?_; rw [R1.out, R2.out]; rintro e w2 ⟨rfl, u2⟩; have b2 := Lib.hid u2.blk
          go_wp2_with (first
          | (with_reducible refine Lex.wp_region_lex (by kernel_rfl) (by decide +kernel) ?_)
          | (with_reducible refine Lex.fin_on (by kernel_rfl) ?_))
          refine (read_any _ _ _ b2.out).mono ?_; rintro e w3 ⟨rfl, rfl⟩
          have hl := cat_empty A B
          go_wp2_with (first
          | (with_reducible refine Lex.wp_region_lex (by kernel_rfl) (by decide +kernel) ?_)
          | (with_reducible refine Lex.fin_on (by kernel_rfl) ?_))
          refine (len_any _ _ _ b2.out).mono ?_; rintro e w3 ⟨rfl, rfl⟩
          go_wp2_with (first
          | (with_reducible refine Lex.wp_region_lex (by kernel_rfl) (by decide +kernel) ?_)
          | (with_reducible refine Lex.fin_on (by kernel_rfl) ?_))
          refine (synced_any _ _ _ b2.out).mono ?_; rintro e w3 ⟨rfl, rfl⟩
          go_wp2_with (first
          | (with_reducible refine Lex.wp_region_lex (by kernel_rfl) (by decide +kernel) ?_)
          | (with_reducible refine Lex.fin_on (by kernel_rfl) ?_))
          refine (awake37 _).mono ?_; rintro e w3 ⟨rfl, hb3⟩
          go_wp2_with (first
          | (with_reducible refine Lex.wp_region_lex (by kernel_rfl) (by decide +kernel) ?_)
          | (with_reducible refine Lex.fin_on (by kernel_rfl) ?_))
          go_ret
          exact ⟨rfl, ((B0.out.trans (u1.below (Nat.le_refl _))).trans (u2.below (Nat.le_refl _))).trans (hb3.mono (by rw [u2.size, u1.size]; exact B0.out.size))⟩
        · obtain ⟨q1, q2⟩ := p2 (by simp; omega)
          clear p1 p2
          have R1 := Lib.hid q1; have R2 := Lib.hid q2; clear q1 q2
          rw [Int.zero_add] at fb
          have fb' : decide ((B.size : Int) ≤ C) = false := by simpa using fb
          clear fb
          go_wp2_with (first
          | (with_reducible refine Lex.wp_region_lex (by kernel_rfl) (by decide +kernel) ?_)
          | (with_reducible refine Lex.fin_on (by kernel_rfl) ?_))
          refine (append_any _ _ B _ ok1 (by omega) b1.out).mono ?_; rw [R1.out, R2.out]; rintro e w2 ⟨rfl, u2⟩; have b2 := Lib.hid u2.blk
          go_wp2_with (first
          | (with_reducible refine Lex.wp_region_lex (by kernel_rfl) (by decide +kernel) ?_)
          | (with_reducible refine Lex.fin_on (by kernel_rfl) ?_))
          refine (read_any _ _ _ b2.out).mono ?_; rintro e w3 ⟨rfl, rfl⟩
          have hl := cat_empty A B
          go_wp2_with (first
          | (with_reducible refine Lex.wp_region_lex (by kernel_rfl) (by decide +kernel) ?_)
          | (with_reducible refine Lex.fin_on (by kernel_rfl) ?_))
          refine (len_any _ _ _ b2.out).mono ?_; rintro e w3 ⟨rfl, rfl⟩
          go_wp2_with (first
          | (with_reducible refine Lex.wp_region_lex (by kernel_rfl) (by decide +kernel) ?_)
          | (with_reducible refine Lex.fin_on (by kernel_rfl) ?_))
          refine (synced_any _ _ _ b2.out).mono ?_; rintro e w3 ⟨rfl, rfl⟩
          go_wp2_with (first
          | (with_reducible refine Lex.wp_region_lex (by kernel_rfl) (by decide +kernel) ?_)
          | (with_reducible refine Lex.fin_on (by kernel_rfl) ?_))
          refine (awake37 _).mono ?_; rintro e w3 ⟨rfl, hb3⟩
          go_wp2_with (first
          | (with_reducible refine Lex.wp_region_lex (by kernel_rfl) (by decide +kernel) ?_)
          | (with_reducible refine Lex.fin_on (by kernel_rfl) ?_))
          go_ret
          exact ⟨rfl, ((B0.out.trans (u1.below (Nat.le_refl _))).trans (u2.below (Nat.le_refl _))).trans (hb3.mono (by rw [u2.size, u1.size]; exact B0.out.size))⟩
    · have hB' : (b.extract 0 50).size ≤ 50 := by simp; omega
      go_enter Try.func3, Try.ntmps3
      go_wp2_with (first
          | (with_reducible refine Lex.wp_region_lex (by kernel_rfl) (by decide +kernel) ?_)
          | (with_reducible refine Lex.fin_on (by kernel_rfl) ?_))
      generalize a.extract 0 50 = A at *
      generalize b.extract 0 50 = B at *
      have hC := cbound c
      generalize wrap64 ((IntKind.u64.wrap c).tmod 60) = C at *
      obtain ⟨hC0, hC1⟩ := hC
      refine (new_any C _).mono ?_; rintro e w0 ⟨rfl, hw0⟩
      rw [show min (max C 0) 16777216 = C by omega] at hw0
      have b0 : w0.heap[w.heap.size]? = some (DM.obj ⟨C, ByteArray.empty, 0, false, 0, 0, false⟩) := by rw [← hw0]; exact heap_new _ _
      have B0 : Hid (Below w.heap.size w w0) := by rw [← hw0]; exact ((Below.refl w.heap.size w).drew.alloc (Nat.le_refl _) _)
      clear hw0
      have ok0 : (⟨C, ByteArray.empty, 0, false, 0, 0, false⟩ : DM).Ok := by constructor <;> simp <;> omega
      have e0 : ((⟨C, ByteArray.empty, 0, false, 0, 0, false⟩ : DM).data.size : Int) = 0 := by simp
      obtain ⟨p1, p2⟩ := room_plain ⟨C, ByteArray.empty, 0, false, 0, 0, false⟩ A rfl rfl
      dsimp only at p1 p2
      by_cases fa : (A.size : Int) ≤ C
      · obtain ⟨q1, q2⟩ := p1 (by simp; omega)
        clear p1 p2 e0
        have Q1 := Lib.hid q1; have Q2 := Lib.hid q2; clear q1 q2
        go_wp2_with (first
          | (with_reducible refine Lex.wp_region_lex (by kernel_rfl) (by decide +kernel) ?_)
          | (with_reducible refine Lex.fin_on (by kernel_rfl) ?_))
        refine (append_any _ _ A _ ok0 (by omega) b0).mono ?_; rw [Q1.out, Q2.out]; rintro e w1 ⟨rfl, u1⟩; have b1 := Lib.hid u1.blk
        have ok1 : (⟨C, (ByteArray.empty ++ A), 0, false, 0, 0, false⟩ : DM).Ok := by constructor <;> simp <;> omega
        obtain ⟨p1, p2⟩ := room_plain ⟨C, (ByteArray.empty ++ A), 0, false, 0, 0, false⟩ B rfl rfl
        dsimp only at p1 p2
        by_cases fb : (A.size : Int) + B.size ≤ C
        · obtain ⟨q1, q2⟩ := p1 (by simp; omega)
          clear p1 p2
          have R1 := Lib.hid q1; have R2 := Lib.hid q2; clear q1 q2
          go_wp2_with (first
          | (with_reducible refine Lex.wp_region_lex (by kernel_rfl) (by decide +kernel) ?_)
          | (with_reducible refine Lex.fin_on (by kernel_rfl) ?_))
          refine (append_any _ _ B _ ok1 (by omega) b1.out).mono ?_; rw [R1.out, R2.out]; rintro e w2 ⟨rfl, u2⟩; have b2 := Lib.hid u2.blk
          go_wp2_with (first
          | (with_reducible refine Lex.wp_region_lex (by kernel_rfl) (by decide +kernel) ?_)
          | (with_reducible refine Lex.fin_on (by kernel_rfl) ?_))
          refine (read_any _ _ _ b2.out).mono ?_; rintro e w3 ⟨rfl, rfl⟩
          have hl := cat_empty A B
          go_wp2_with (first
          | (with_reducible refine Lex.wp_region_lex (by kernel_rfl) (by decide +kernel) ?_)
          | (with_reducible refine Lex.fin_on (by kernel_rfl) ?_))
          refine (len_any _ _ _ b2.out).mono ?_; rintro e w3 ⟨rfl, rfl⟩
          go_wp2_with (first
          | (with_reducible refine Lex.wp_region_lex (by kernel_rfl) (by decide +kernel) ?_)
          | (with_reducible refine Lex.fin_on (by kernel_rfl) ?_))
          refine (synced_any _ _ _ b2.out).mono ?_; rintro e w3 ⟨rfl, rfl⟩
          go_wp2_with (first
          | (with_reducible refine Lex.wp_region_lex (by kernel_rfl) (by decide +kernel) ?_)
          | (with_reducible refine Lex.fin_on (by kernel_rfl) ?_))
          refine (awake37 _).mono ?_; rintro e w3 ⟨rfl, hb3⟩
          go_wp2_with (first
          | (with_reducible refine Lex.wp_region_lex (by kernel_rfl) (by decide +kernel) ?_)
          | (with_reducible refine Lex.fin_on (by kernel_rfl) ?_))
          go_ret
          exact ⟨rfl, ((B0.out.trans (u1.below (Nat.le_refl _))).trans (u2.below (Nat.le_refl _))).trans (hb3.mono (by rw [u2.size, u1.size]; exact B0.out.size))⟩
        · obtain ⟨q1, q2⟩ := p2 (by simp; omega)
          clear p1 p2
          have R1 := Lib.hid q1; have R2 := Lib.hid q2; clear q1 q2
          have fb' : decide ((A.size : Int) + B.size ≤ C) = false := by simpa using fb
          clear fb
          go_wp2_with (first
          | (with_reducible refine Lex.wp_region_lex (by kernel_rfl) (by decide +kernel) ?_)
          | (with_reducible refine Lex.fin_on (by kernel_rfl) ?_))
          refine (append_any _ _ B _ ok1 (by omega) b1.out).mono ?_; rw [R1.out, R2.out]; rintro e w2 ⟨rfl, u2⟩; have b2 := Lib.hid u2.blk
          go_wp2_with (first
          | (with_reducible refine Lex.wp_region_lex (by kernel_rfl) (by decide +kernel) ?_)
          | (with_reducible refine Lex.fin_on (by kernel_rfl) ?_))
          refine (read_any _ _ _ b2.out).mono ?_; rintro e w3 ⟨rfl, rfl⟩
          have hl := cat_empty A B
          go_wp2_with (first
          | (with_reducible refine Lex.wp_region_lex (by kernel_rfl) (by decide +kernel) ?_)
          | (with_reducible refine Lex.fin_on (by kernel_rfl) ?_))
          refine (len_any _ _ _ b2.out).mono ?_; rintro e w3 ⟨rfl, rfl⟩
          go_wp2_with (first
          | (with_reducible refine Lex.wp_region_lex (by kernel_rfl) (by decide +kernel) ?_)
          | (with_reducible refine Lex.fin_on (by kernel_rfl) ?_))
          refine (synced_any _ _ _ b2.out).mono ?_; rintro e w3 ⟨rfl, rfl⟩
          go_wp2_with (first
          | (with_reducible refine Lex.wp_region_lex (by kernel_rfl) (by decide +kernel) ?_)
          | (with_reducible refine Lex.fin_on (by kernel_rfl) ?_))
          refine (awake37 _).mono ?_; rintro e w3 ⟨rfl, hb3⟩
          go_wp2_with (first
          | (with_reducible refine Lex.wp_region_lex (by kernel_rfl) (by decide +kernel) ?_)
          | (with_reducible refine Lex.fin_on (by kernel_rfl) ?_))
          go_ret
          exact ⟨rfl, ((B0.out.trans (u1.below (Nat.le_refl _))).trans (u2.below (Nat.le_refl _))).trans (hb3.mono (by rw [u2.size, u1.size]; exact B0.out.size))⟩
      · obtain ⟨q1, q2⟩ := p2 (by simp; omega)
        clear p1 p2 e0
        have Q1 := Lib.hid q1; have Q2 := Lib.hid q2; clear q1 q2
        have fa' : decide ((A.size : Int) ≤ C) = false := by simpa using fa
        clear fa
        go_wp2_with (first
          | (with_reducible refine Lex.wp_region_lex (by kernel_rfl) (by decide +kernel) ?_)
          | (with_reducible refine Lex.fin_on (by kernel_rfl) ?_))
        refine (append_any _ _ A _ ok0 (by omega) b0).mono ?_; rw [Q1.out, Q2.out]; rintro e w1 ⟨rfl, u1⟩; have b1 := Lib.hid u1.blk
        have ok1 : (⟨C, ByteArray.empty, 0, false, 0, 0, false⟩ : DM).Ok := by constructor <;> simp <;> omega
        obtain ⟨p1, p2⟩ := room_plain ⟨C, ByteArray.empty, 0, false, 0, 0, false⟩ B rfl rfl
        dsimp only at p1 p2
        by_cases fb : 0 + B.size ≤ C
        · obtain ⟨q1, q2⟩ := p1 (by simp; omega)
          clear p1 p2
          have R1 := Lib.hid q1; have R2 := Lib.hid q2; clear q1 q2
          rw [Int.zero_add] at fb
          go_wp2_with (first
          | (with_reducible refine Lex.wp_region_lex (by kernel_rfl) (by decide +kernel) ?_)
          | (with_reducible refine Lex.fin_on (by kernel_rfl) ?_))
          refine (append_any _ _ B _ ok1 (by omega) b1.out).mono ?_; rw [R1.out, R2.out]; rintro e w2 ⟨rfl, u2⟩; have b2 := Lib.hid u2.blk
          go_wp2_with (first
          | (with_reducible refine Lex.wp_region_lex (by kernel_rfl) (by decide +kernel) ?_)
          | (with_reducible refine Lex.fin_on (by kernel_rfl) ?_))
          refine (read_any _ _ _ b2.out).mono ?_; rintro e w3 ⟨rfl, rfl⟩
          have hl := cat_empty A B
          go_wp2_with (first
          | (with_reducible refine Lex.wp_region_lex (by kernel_rfl) (by decide +kernel) ?_)
          | (with_reducible refine Lex.fin_on (by kernel_rfl) ?_))
          refine (len_any _ _ _ b2.out).mono ?_; rintro e w3 ⟨rfl, rfl⟩
          go_wp2_with (first
          | (with_reducible refine Lex.wp_region_lex (by kernel_rfl) (by decide +kernel) ?_)
          | (with_reducible refine Lex.fin_on (by kernel_rfl) ?_))
          refine (synced_any _ _ _ b2.out).mono ?_; rintro e w3 ⟨rfl, rfl⟩
          go_wp2_with (first
          | (with_reducible refine Lex.wp_region_lex (by kernel_rfl) (by decide +kernel) ?_)
          | (with_reducible refine Lex.fin_on (by kernel_rfl) ?_))
          refine (awake37 _).mono ?_; rintro e w3 ⟨rfl, hb3⟩
          go_wp2_with (first
          | (with_reducible refine Lex.wp_region_lex (by kernel_rfl) (by decide +kernel) ?_)
          | (with_reducible refine Lex.fin_on (by kernel_rfl) ?_))
          go_ret
          exact ⟨rfl, ((B0.out.trans (u1.below (Nat.le_refl _))).trans (u2.below (Nat.le_refl _))).trans (hb3.mono (by rw [u2.size, u1.size]; exact B0.out.size))⟩
        · obtain ⟨q1, q2⟩ := p2 (by simp; omega)
          clear p1 p2
          have R1 := Lib.hid q1; have R2 := Lib.hid q2; clear q1 q2
          rw [Int.zero_add] at fb
          have fb' : decide ((B.size : Int) ≤ C) = false := by simpa using fb
          clear fb
          go_wp2_with (first
          | (with_reducible refine Lex.wp_region_lex (by kernel_rfl) (by decide +kernel) ?_)
          | (with_reducible refine Lex.fin_on (by kernel_rfl) ?_))
          refine (append_any _ _ B _ ok1 (by omega) b1.out).mono ?_; rw [R1.out, R2.out]; rintro e w2 ⟨rfl, u2⟩; have b2 := Lib.hid u2.blk
          go_wp2_with (first
          | (with_reducible refine Lex.wp_region_lex (by kernel_rfl) (by decide +kernel) ?_)
          | (with_reducible refine Lex.fin_on (by kernel_rfl) ?_))
          refine (read_any _ _ _ b2.out).mono ?_; rintro e w3 ⟨rfl, rfl⟩
          have hl := cat_empty A B
          go_wp2_with (first
          | (with_reducible refine Lex.wp_region_lex (by kernel_rfl) (by decide +kernel) ?_)
          | (with_reducible refine Lex.fin_on (by kernel_rfl) ?_))
          refine (len_any _ _ _ b2.out).mono ?_; rintro e w3 ⟨rfl, rfl⟩
          go_wp2_with (first
          | (with_reducible refine Lex.wp_region_lex (by kernel_rfl) (by decide +kernel) ?_)
          | (with_reducible refine Lex.fin_on (by kernel_rfl) ?_))
          refine (synced_any _ _ _ b2.out).mono ?_; rintro e w3 ⟨rfl, rfl⟩
          go_wp2_with (first
          | (with_reducible refine Lex.wp_region_lex (by kernel_rfl) (by decide +kernel) ?_)
          | (with_reducible refine Lex.fin_on (by kernel_rfl) ?_))
          refine (awake37 _).mono ?_; rintro e w3 ⟨rfl, hb3⟩
          go_wp2_with (first
          | (with_reducible refine Lex.wp_region_lex (by kernel_rfl) (by decide +kernel) ?_)
          | (with_reducible refine Lex.fin_on (by kernel_rfl) ?_))
          go_ret
          exact ⟨rfl, ((B0.out.trans (u1.below (Nat.le_refl _))).trans (u2.below (Nat.le_refl _))).trans (hb3.mono (by rw [u2.size, u1.size]; exact B0.out.size))⟩


end Go.Proofs.Ytmflngpgmmgohaa
