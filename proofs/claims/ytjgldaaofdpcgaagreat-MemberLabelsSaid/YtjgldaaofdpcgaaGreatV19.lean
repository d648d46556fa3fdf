/- Walks and plain facts for the laws of membership, for all values and types that the heap holds (texts W1 S1 S2 V4). -/
import Derived.Test.YtjgldaaofdpcgaaGreatV03
import Derived.Test.YtjgldaaofdpcgaaGreatV06
import Derived.Test.YtjgldaaofdpcgaaGreatV09
import Derived.Test.YtjgldaaofdpcgaaGreatV15
import Derived.Test.YtjgldaaofdpcgaaGreatV18
set_option linter.unusedVariables false
set_option linter.unusedSimpArgs false
namespace Go.Proofs.YtjgldaaofdpcgaaGreat
open Go.RowKit Go.Ident
set_option maxRecDepth 100000
def boolK (k : Int) : Bool:=decide (k = 16) || decide (k = 17) || decide (k = 18)
theorem th2 (n : TN) : n.bool = boolK n.kind:=rfl
theorem tcp (k : Int) (w : World) : Calls Tryz.prog 91 #[.int .i64 k] w (ER (boolK k) w):=by
  by_cases h1 : k = 16
  · subst h1
    go_enter Tryz.func91,Tryz.ntmps91
    go_wp2
    go_ret
    exact ⟨rfl,Below.refl _ _⟩
  have d1 : (k == 16) = false:=by simp [h1]
  by_cases h2 : k = 17
  · subst h2
    go_enter Tryz.func91,Tryz.ntmps91
    go_wp2
    go_ret
    exact ⟨rfl,Below.refl _ _⟩
  have d2 : (k == 17) = false:=by simp [h2]
  have Hr:=zH (show boolK k = (k == 18) by unfold boolK;simp [h1,h2];rw [Bool.eq_iff_iff];simp)
  clear h1 h2
  go_enter Tryz.func91,Tryz.ntmps91
  go_wp2
  go_ret
  rw [Hr.out]
  exact ⟨rfl,Below.refl _ _⟩
end Go.Proofs.YtjgldaaofdpcgaaGreat
namespace Go.Proofs.YtjgldaaofdpcgaaGreat
open Go.RowKit
set_option maxRecDepth 100000
def NR (S : SD) (n : Int) (w : World) (e : Ending) (w' : World) : Prop:=∃ x : Int,e = .returned (.int .i64 x) ∧ SR S w w' ∧ 0 ≤ x ∧ (1 ≤ n → x < n) ∧ (n < 1 → x = 0)
theorem SR.of_upd {S : SD} {o : Obj} {w w' : World} (h : SRC S w) (hu : Upd S.b o w w') {i : Nat} (ho : o = .cells #[.slice S.p S.L.length S.c,.int .i64 ((i : Nat) : Int)] 39) (hi : i ≤ S.L.length) : SR S w w' :=
  ⟨t7n hu,h,⟨i,hi,by rw [hu.blk,ho]⟩,h.row.below (by rw [t1x];exact t7n hu),h.len⟩
set_option maxHeartbeats 16000000 in
theorem t1a (S : SD) (n : Int) (w : World) (hS : SRC S w) (hn : n ≤ 9223372036854775807) : Calls Tryz.prog 24 #[.pointer (some ⟨S.b,0,none⟩),.int .i64 n] w (NR S n w):=by
  have HS:=zH hS
  have hL:=hS.len
  obtain ⟨⟨i,hi,hb⟩,hI,-⟩:=hS
  have HB:=zH hb
  obtain ⟨s0,s1⟩:=t0w hb
  by_cases h1 : n < 1
  · have d1 : decide (n < 1) = true:=by simp [h1]
    clear hb hI
    go_enter Tryz.func24,Tryz.ntmps24
    go_wp2_with (first
      | (with_reducible refine rg ?_)
      | (with_reducible refine fo ?_))
    go_ret
    exact ⟨0,rfl,SR.of_upd HS.out (Upd.refl HB.out).drew rfl hi,by omega,fun h=>by omega,fun _=>rfl⟩
  have d1 : decide (n < 1) = false:=by simp;omega
  by_cases h2 : i < S.L.length
  rotate_left
  · have d2 : decide (S.L.length ≤ i) = true:=by simp;omega
    clear hb hI
    go_enter Tryz.func24,Tryz.ntmps24
    go_wp2_with (first
      | (with_reducible refine rg ?_)
      | (with_reducible refine fo ?_))
    go_ret
    exact ⟨0,rfl,SR.of_upd HS.out (Upd.refl HB.out).drew rfl hi,by omega,fun h=>by omega,fun _=>rfl⟩
  have d2 : decide (S.L.length ≤ i) = false:=by simp;omega
  have d3 : decide (i < S.L.length) = true:=by simp;omega
  have hi2 : (i : Int) < (S.L.length : Int):=by omega
  have d4 : (n == 0) = false:=by rw [Bool.eq_false_iff];intro g;rw [beq_iff_eq] at g;omega
  have d5 : n ≠ 0:=by omega
  have d6 : (n == -1) = false:=by rw [Bool.eq_false_iff];intro g;rw [beq_iff_eq] at g;omega
  obtain ⟨-,a,o,hp,hab,zk⟩:=hI.at h2
  have hp : S.p = some ⟨a,o,none⟩:=hp
  have zk:=t0l zk
  have hf : w.frozen? ⟨S.b,1,none⟩ = false:=by simp [World.frozen?,HB.out]
  have hm1:=Int.tmod_lt_of_pos S.L[i] (show 0 < n by omega)
  have hm2:=Int.lt_tmod_of_pos S.L[i] (show 0 < n by omega)
  generalize S.L[i] = x at *
  clear hb hI
  go_enter Tryz.func24,Tryz.ntmps24
  go_upto_region 4 with (first
    | (with_reducible refine rg ?_)
    | (with_reducible refine fo ?_))

  generalize x.tmod n = r at *
  have HU:=zH (show Upd S.b (.cells #[.slice S.p S.L.length S.c,.int .i64 ((i + 1 : Nat) : Int)] 39) w (w.drew.drew.setCell ⟨S.b,1,none⟩ (.int .i64 ((i : Int) + 1))) from Upd.cast (((Upd.refl HB.out).drew.drew).set (i:=1) (v:=.int .i64 ((i : Int) + 1))) (by simp))
  have HR:=zH (fun w' (hu : Upd S.b (.cells #[.slice S.p S.L.length S.c,.int .i64 ((i + 1 : Nat) : Int)] 39) w w')=>SR.of_upd HS.out hu rfl (by omega))
  by_cases hr : r < 0
  · have e1 : decide (r < 0) = true:=by simp [hr]
    go_wp2
    go_ret
    exact ⟨r + n,by first | rfl | (congr 2;go_num),HR.out _ HU.out,by omega,fun _=>by omega,fun h=>by omega⟩
  · have e1 : decide (r < 0) = false:=by simp;omega
    go_wp2
    go_ret
    exact ⟨r,rfl,HR.out _ HU.out,by omega,fun _=>by omega,fun h=>by omega⟩
end Go.Proofs.YtjgldaaofdpcgaaGreat
namespace Go.Proofs.YtjgldaaofdpcgaaGreat
open Go.RowKit Go.Ident
set_option maxRecDepth 100000
theorem t2a {w : World} {b m : Nat} {arr : Array Value} {e : TypeId} {fr : Nat × Nat} {v : Value} (h : w.heap[b]? = some (.cells arr e fr)) (hv : arr[m]? = some v) : w.cell? ⟨b,m,none⟩ = some v:=by simp [World.cell?,h,hv]
theorem SR.row {S : SD} {w w3 : World} (h : SR S w w3) {bx : Nat} (hb : w.heap.size ≤ bx) (hn : bx ≠ S.b) (cs : Array Value) : SR S w (w3.setRow bx cs) :=
  h.own (t1d (Below.refl _ _) hb) (setRow_other _ _ _ _ (Ne.symm hn))
def GR (P : ByteArray → Prop) (S : SD) (w : World) (e : Ending) (w' : World) : Prop:=∃ s,e = .returned (.string s) ∧ SR S w w' ∧ P s
set_option maxHeartbeats 16000000 in
theorem t5e (S : SD) (w : World) (hS : SRC S w) : Calls Tryz.prog 71 #[.pointer (some ⟨S.b,0,none⟩)] w (GR (fun s=>isAtm s.data.toList = true) S w):=by
  have HS:=zH hS
  have Hb:=zH (show w.heap.size ≠ S.b by have:=hS.lt;omega)
  have Ha:=zH (SR.alloc hS (.cells #[.string ⟨#[97]⟩,.string ⟨#[98]⟩,.string ⟨#[111,107]⟩,.string ⟨#[101,114,114,111,114]⟩] 9))
  have Hn:=zH (heap_alloc_new w (.cells #[.string ⟨#[97]⟩,.string ⟨#[98]⟩,.string ⟨#[111,107]⟩,.string ⟨#[101,114,114,111,114]⟩] 9))
  clear hS
  go_enter Tryz.func71,Tryz.ntmps71
  go_wp2_with (go_at_call 24;refine (t1a S 4 _ Ha.out.src (by omega)).mono ?_;rintro e w6 ⟨x,rfl,hs,h0,h1,-⟩;have h1:=h1 (by decide);have zn:=(hs.block (k:=w.heap.size) (by simp) Hb.out).trans Hn.out;have Hs:=zH (Ha.out.trans hs);have q0:=t2a zn (m:=0) rfl;have q1:=t2a zn (m:=1) rfl;have q2:=t2a zn (m:=2) rfl;have q3:=t2a zn (m:=3) rfl;clear zn hs;rcases (show x = 0 ∨ x = 1 ∨ x = 2 ∨ x = 3 by omega) with rfl | rfl | rfl | rfl)
  all_goals
    go_ret
    exact ⟨_,rfl,Hs.out,by decide +kernel⟩
set_option maxHeartbeats 16000000 in
theorem t8l (S : SD) (w : World) (hS : SRC S w) : Calls Tryz.prog 72 #[.pointer (some ⟨S.b,0,none⟩)] w (GR (fun s=>s.size ≤ 64) S w):=by
  have HS:=zH hS
  have Hb:=zH (show w.heap.size ≠ S.b by have:=hS.lt;omega)
  have Ha:=zH (SR.alloc hS (.cells #[.string ⟨#[]⟩,.string ⟨#[115]⟩,.string ⟨#[120,32,121]⟩,.string ⟨#[97]⟩] 9))
  have Hn:=zH (heap_alloc_new w (.cells #[.string ⟨#[]⟩,.string ⟨#[115]⟩,.string ⟨#[120,32,121]⟩,.string ⟨#[97]⟩] 9))
  clear hS
  go_enter Tryz.func72,Tryz.ntmps72
  go_wp2_with (go_at_call 24;refine (t1a S 4 _ Ha.out.src (by omega)).mono ?_;rintro e w6 ⟨x,rfl,hs,h0,h1,-⟩;have h1:=h1 (by decide);have zn:=(hs.block (k:=w.heap.size) (by simp) Hb.out).trans Hn.out;have Hs:=zH (Ha.out.trans hs);have q0:=t2a zn (m:=0) rfl;have q1:=t2a zn (m:=1) rfl;have q2:=t2a zn (m:=2) rfl;have q3:=t2a zn (m:=3) rfl;clear zn hs;rcases (show x = 0 ∨ x = 1 ∨ x = 2 ∨ x = 3 by omega) with rfl | rfl | rfl | rfl)
  all_goals
    go_ret
    exact ⟨_,rfl,Hs.out,by decide +kernel⟩
set_option maxHeartbeats 16000000 in
theorem t9i (S : SD) (w : World) (hS : SRC S w) : Calls Tryz.prog 48 #[.pointer (some ⟨S.b,0,none⟩)] w (GR (fun s=>isVrb s.data.toList = true) S w):=by
  have HS:=zH hS
  have Hb:=zH (show w.heap.size ≠ S.b by have:=hS.lt;omega)
  have Ha:=zH (SR.alloc hS (.cells #[.string ⟨#[65]⟩,.string ⟨#[66]⟩,.string ⟨#[67]⟩] 9))
  have Hn:=zH (heap_alloc_new w (.cells #[.string ⟨#[65]⟩,.string ⟨#[66]⟩,.string ⟨#[67]⟩] 9))
  clear hS
  go_enter Tryz.func48,Tryz.ntmps48
  go_wp2_with (go_at_call 24;refine (t1a S 3 _ Ha.out.src (by omega)).mono ?_;rintro e w6 ⟨x,rfl,hs,h0,h1,-⟩;have h1:=h1 (by decide);have zn:=(hs.block (k:=w.heap.size) (by simp) Hb.out).trans Hn.out;have Hs:=zH (Ha.out.trans hs);have q0:=t2a zn (m:=0) rfl;have q1:=t2a zn (m:=1) rfl;have q2:=t2a zn (m:=2) rfl;clear zn hs;rcases (show x = 0 ∨ x = 1 ∨ x = 2 by omega) with rfl | rfl | rfl)
  all_goals
    go_ret
    exact ⟨_,rfl,Hs.out,by decide +kernel⟩
set_option maxHeartbeats 16000000 in
theorem tfv (S : SD) (w : World) (hS : SRC S w) : Calls Tryz.prog 80 #[.pointer (some ⟨S.b,0,none⟩)] w (fun e w'=>∃ x : Int,e = .returned (.int .i64 x) ∧ SR S w w'):=by
  have HS:=zH hS
  have Hb:=zH (show w.heap.size ≠ S.b by have:=hS.lt;omega)
  have Ha:=zH (SR.alloc hS (.cells #[.int .i64 0,.int .i64 1,.int .i64 (-1),.int .i64 2,.int .i64 3,.int .i64 (-2),.int .i64 7,.int .i64 (-9223372036854775808),.int .i64 9223372036854775807,.int .i64 10] 2))
  have Hn:=zH (heap_alloc_new w (.cells #[.int .i64 0,.int .i64 1,.int .i64 (-1),.int .i64 2,.int .i64 3,.int .i64 (-2),.int .i64 7,.int .i64 (-9223372036854775808),.int .i64 9223372036854775807,.int .i64 10] 2))
  clear hS
  go_enter Tryz.func80,Tryz.ntmps80
  go_wp2_with (go_at_call 24;refine (t1a S 10 _ Ha.out.src (by omega)).mono ?_;rintro e w6 ⟨x,rfl,hs,h0,h1,-⟩;have h1:=h1 (by decide);have zn:=(hs.block (k:=w.heap.size) (by simp) Hb.out).trans Hn.out;have Hs:=zH (Ha.out.trans hs);have q0:=t2a zn (m:=0) rfl;have q1:=t2a zn (m:=1) rfl;have q2:=t2a zn (m:=2) rfl;have q3:=t2a zn (m:=3) rfl;have q4:=t2a zn (m:=4) rfl;have q5:=t2a zn (m:=5) rfl;have q6:=t2a zn (m:=6) rfl;have q7:=t2a zn (m:=7) rfl;have q8:=t2a zn (m:=8) rfl;have q9:=t2a zn (m:=9) rfl;clear zn hs;rcases (show x = 0 ∨ x = 1 ∨ x = 2 ∨ x = 3 ∨ x = 4 ∨ x = 5 ∨ x = 6 ∨ x = 7 ∨ x = 8 ∨ x = 9 by omega) with rfl | rfl | rfl | rfl | rfl | rfl | rfl | rfl | rfl | rfl)
  all_goals
    go_ret
    exact ⟨_,rfl,Hs.out⟩
set_option maxHeartbeats 16000000 in
theorem ti8 (S : SD) (w : World) (hS : SRC S w) : Calls Tryz.prog 45 #[.pointer (some ⟨S.b,0,none⟩)] w (fun e w'=>∃ k : KK,e = .returned (.agg #[.int .i64 k.kind,.string k.text]) ∧ SR S w w'):=by
  have HS:=zH hS
  have Hb:=zH (show w.heap.size ≠ S.b by have:=hS.lt;omega)
  have Ha:=zH (SR.alloc hS (.cells #[.int .i64 0,.string ⟨#[]⟩] 73))
  have Hn:=zH (heap_alloc_new w (.cells #[.int .i64 0,.string ⟨#[]⟩] 73))
  have hlt : w.heap.size < (w.alloc (.cells #[.int .i64 0,.string ⟨#[]⟩] 73)).heap.size:=by simp
  go_enter Tryz.func45,Tryz.ntmps45
  go_upto_region 1 with fail
  generalize w.alloc (.cells #[.int .i64 0,.string ⟨#[]⟩] 73) = w1 at *
  go_upto_region 2 with (go_at_call 24;refine (t1a S 2 w1 Ha.out.src (by omega)).mono ?_;rintro e w2 ⟨x,rfl,hs,h0,h1,-⟩;have h1:=h1 (by decide);have H2:=zH (Ha.out.trans hs);have Z2:=zH ((hs.block hlt Hb.out).trans Hn.out);clear hs;rcases (show x = 0 ∨ x = 1 by omega) with rfl | rfl)
  · go_wp2_with (first
      | (go_at_call 71;refine (t5e S w2 H2.out.src).mono ?_;rintro e w3 ⟨s,rfl,hs,-⟩;have H3:=zH (H2.out.trans hs);have Z3:=zH ((hs.block (t0b Z2.out) Hb.out).trans Z2.out);clear hs)
      | (with_reducible refine wpList_store_row rfl 73 (.tmp 2) (.tmp 8) rfl _ _ rfl rfl _ _ Z3.out (by kernel_rfl) (by kernel_rfl) (by kernel_rfl) ?_))
    refine bodyPost_ret (results_cell_row rfl _ _ w.heap.size 73 _ (0,0) _ rfl (setRow_heap _ _ _ _ _ _ Z3.out) rfl rfl (by kernel_rfl)) rfl ?_
    exact ⟨⟨0,s⟩,rfl,H3.out.row (Nat.le_refl _) Hb.out _⟩
  · go_wp2_with (first
      | (go_at_call 72;refine (t8l S w2 H2.out.src).mono ?_;rintro e w3 ⟨s,rfl,hs,-⟩;have H3:=zH (H2.out.trans hs);have Z3:=zH ((hs.block (t0b Z2.out) Hb.out).trans Z2.out);clear hs)
      | (with_reducible refine wpList_store_row rfl 73 (.tmp 2) (.tmp 11) rfl _ _ rfl rfl _ _ Z3.out (by kernel_rfl) (by kernel_rfl) (by kernel_rfl) ?_))
    refine bodyPost_ret (results_cell_row rfl _ _ w.heap.size 73 _ (0,0) _ rfl (setRow_heap _ _ _ _ _ _ Z3.out) rfl rfl (by kernel_rfl)) rfl ?_
    exact ⟨⟨1,s⟩,rfl,H3.out.row (Nat.le_refl _) Hb.out _⟩
end Go.Proofs.YtjgldaaofdpcgaaGreat
namespace Go.Proofs.YtjgldaaofdpcgaaGreat
open Go.Ident

def insE (x : EE) : List EE → List EE
  | []=>[x]
  | y :: r=>if cmpE y x < 0 then y :: insE x r else if cmpE y x = 0 then y :: r else x :: y :: r
def entsE (l : List EE) : List EE:=l.foldl (fun out x=>insE x out) []
theorem tdi {x z : EE} : ∀ {l : List EE},z ∈ insE x l ↔ z = x ∨ z ∈ l
  | []=>by simp [insE]
  | y :: r=>by
    unfold insE
    by_cases h1 : cmpE y x < 0
    · rw [if_pos h1,List.mem_cons,tdi (l:=r),List.mem_cons]
      exact ⟨fun h=>by rcases h with h | h | h <;> simp [h],fun h=>by rcases h with h | h | h <;> simp [h]⟩
    · rw [if_neg h1]
      by_cases h2 : cmpE y x = 0
      · rw [if_pos h2,ti0 h2];simp
      · rw [if_neg h2];simp
theorem asc_cons {f : EE → EE → Int} {x : EE} : ∀ {l : List EE},ascL f (x :: l) = true ↔ (∀ y,l.head? = some y → f x y < 0) ∧ ascL f l = true
  | []=>by simp [ascL]
  | y :: r=>by simp [ascL]
theorem th3 {x : EE} {l : List EE} {z : EE} (h : (insE x l).head? = some z) : z = x ∨ l.head? = some z:=by
  cases l with
  | nil=>left;simpa [insE] using h.symm
  | cons y r =>
    unfold insE at h
    by_cases h1 : cmpE y x < 0
    · rw [if_pos h1] at h;right;simpa using h
    · rw [if_neg h1] at h
      by_cases h2 : cmpE y x = 0
      · rw [if_pos h2] at h;right;simpa using h
      · rw [if_neg h2] at h;left;simpa using h.symm
theorem tdj {x : EE} : ∀ {l : List EE},ascL cmpE l = true → ascL cmpE (insE x l) = true
  | [],_=>by simp [insE,ascL]
  | y :: r,h=>by
    obtain ⟨g1,g2⟩:=asc_cons.1 h
    unfold insE
    by_cases h1 : cmpE y x < 0
    · rw [if_pos h1,asc_cons]
      refine ⟨fun z hz=>?_,tdj g2⟩
      rcases th3 hz with rfl | hz
      · exact h1
      · exact g1 z hz
    · rw [if_neg h1]
      by_cases h2 : cmpE y x = 0
      · rw [if_pos h2];exact h
      · rw [if_neg h2,asc_cons]
        refine ⟨fun z hz=>?_,h⟩
        have : z = y:=by simpa using hz.symm
        subst this
        have:=cmpE_lo.sym x z trivial trivial
        omega
theorem tai : ∀ (l out : List EE),ascL cmpE out = true → ascL cmpE (l.foldl (fun out x=>insE x out) out) = true ∧ ∀ z,z ∈ l.foldl (fun out x=>insE x out) out ↔ z ∈ l ∨ z ∈ out
  | [],out,h=>⟨h,fun z=>by simp⟩
  | x :: r,out,h=>by
    obtain ⟨h1,h2⟩:=tai r (insE x out) (tdj h)
    refine ⟨h1,fun z=>?_⟩
    rw [List.foldl_cons,h2 z,tdi,List.mem_cons]
    exact ⟨fun h=>by rcases h with h | h | h <;> simp [h],fun h=>by rcases h with (h | h) | h <;> simp [h]⟩
theorem th4 (l : List EE) : ascL cmpE (entsE l) = true:=(tai l [] (by simp [ascL])).1
theorem mem_entsE {l : List EE} {z : EE} : z ∈ entsE l ↔ z ∈ l:=by rw [entsE,(tai l [] (by simp [ascL])).2];simp
mutual
def ulV : VV → VV
  | .mk k n t kids keys ents _=>.mk k n t (ulVs kids) keys (entsE (ulEs ents)) []
def ulE : EE → EE
  | .mk args f res=>.mk (ulVs args) f (ulV res)
def ulVs : List VV → List VV
  | []=>[]
  | x :: r=>ulV x :: ulVs r
def ulEs : List EE → List EE
  | []=>[]
  | x :: r=>ulE x :: ulEs r
end
theorem tbq : ∀ l,ulVs l = l.map ulV
  | []=>by rw [ulVs];rfl
  | x :: r=>by rw [ulVs,tbq r];rfl
theorem tf2 : ∀ l,ulEs l = l.map ulE
  | []=>by rw [ulEs];rfl
  | x :: r=>by rw [ulEs,tf2 r];rfl
theorem t5f (v : VV) : ulV v = .mk v.kind v.num v.text (v.kids.map ulV) v.keys (entsE (v.ents.map ulE)) []:=by
  cases v with | mk k n t kids keys ents labels=>rw [ulV,tbq,tf2];rfl
theorem tb9 (e : EE) : ulE e = .mk (e.args.map ulV) e.fails (ulV e.res):=by
  cases e with | mk a f r=>rw [ulE,tbq];rfl
theorem ti9 : ulV zeroV = zeroV:=by rw [t5f];rfl
theorem taj (v : VV) : (ulV v).kind = v.kind:=by rw [t5f];rfl
theorem tbr (v : VV) : (ulV v).num = v.num:=by rw [t5f];rfl
theorem tdk (v : VV) : (ulV v).text = v.text:=by rw [t5f];rfl
theorem t6q (v : VV) : (ulV v).kids = v.kids.map ulV:=by rw [t5f];rfl
theorem tdl (v : VV) : (ulV v).keys = v.keys:=by rw [t5f];rfl
theorem t8m (v : VV) : (ulV v).ents = entsE (v.ents.map ulE):=by rw [t5f];rfl
theorem tfw (v : VV) : (ulV v).labels = []:=by rw [t5f];rfl
theorem t8n (e : EE) : (ulE e).args = e.args.map ulV:=by rw [tb9];rfl
theorem t6w (e : EE) : (ulE e).fails = e.fails:=by rw [tb9];rfl
theorem t9t (e : EE) : (ulE e).res = ulV e.res:=by rw [tb9];rfl
theorem teh {l : List EE} : (entsE l).isEmpty = l.isEmpty:=by
  rw [Bool.eq_iff_iff,List.isEmpty_iff,List.isEmpty_iff]
  constructor
  · intro h
    cases l with
    | nil=>rfl
    | cons x r=>have:=(mem_entsE (l:=x :: r) (z:=x)).2 (by simp);rw [h] at this;simp at this
  · intro h;subst h;rfl
theorem tia {v : VV} (h : nodeV v = true) : nodeV (ulV v) = true:=by
  unfold nodeV at h ⊢
  simp only [Bool.and_eq_true] at h ⊢
  obtain ⟨⟨⟨h1,h2⟩,⟨⟨⟨⟨h3,h4⟩,h5⟩,h6⟩,h7⟩⟩,h8⟩:=h
  rw [taj,tbr,tdk,t6q,tdl,t8m,tfw,teh]
  refine ⟨⟨⟨h1,by simp [ascL]⟩,⟨⟨⟨⟨h3,h4⟩,by simpa using h5⟩,h6⟩,by simpa using h7⟩⟩,?_⟩
  have hk2 : t3v (v.kids.map ulV) = t3v v.kids:=by
    unfold t3v
    rw [List.getElem?_map]
    cases v.kids[1]? with
    | none=>rfl
    | some t=>simp [taj]
  rw [hk2]
  simp only [List.length_map]
  by_cases h9 : v.kind = 9
  · simp only [h9] at h8 ⊢
    simp only [show (9 : Int) ≠ 2 by decide,show (9 : Int) ≠ 3 by decide,show (9 : Int) ≠ 4 by decide,show (9 : Int) ≠ 6 by decide,show (9 : Int) ≠ 7 by decide,show (9 : Int) ≠ 8 by decide,if_false,if_true,Bool.and_eq_true,List.all_eq_true] at h8 ⊢
    refine ⟨h8.1,th4 _,fun e he=>?_⟩
    obtain ⟨e',he',rfl⟩:=List.mem_map.1 (mem_entsE.1 he)
    have:=h8.2.2 e' he'
    unfold entOk at this ⊢
    rw [t8n,t6w,t9t,List.length_map]
    simp only [Bool.and_eq_true,Bool.or_eq_true] at this ⊢
    refine ⟨this.1,?_⟩
    rcases this.2 with g | g
    · exact .inl g
    · right
      rw [decide_eq_true_eq] at g ⊢
      rw [tah g,ti9]
      exact cmpV_lo.self trivial
  · simp only [h9,if_false] at h8 ⊢
    exact h8
theorem tib : ∀ d (v : VV),v.ht ≤ d → v.valid = true → (ulV v).valid = true:=by
  intro d
  induction d with
  | zero=>intro v h;have:=t3m v;omega
  | succ d ih =>
    intro v hd hv
    rw [t4t] at hv ⊢
    simp only [Bool.and_eq_true,List.all_eq_true] at hv ⊢
    refine ⟨tia hv.1,?_,?_⟩
    · rw [t6q]
      intro x hx
      obtain ⟨y,hy,rfl⟩:=List.mem_map.1 hx
      exact ih y (by have:=t3d hy;omega) (hv.2.1 y hy)
    · rw [t8m]
      intro e he
      obtain ⟨e',he',rfl⟩:=List.mem_map.1 (mem_entsE.1 he)
      have h1:=hv.2.2 e' he'
      have h2:=t3u he'
      rw [t6a] at h1 ⊢
      rw [t8n,t6w,t9t]
      simp only [Bool.and_eq_true,List.all_eq_true,Bool.or_eq_true] at h1 ⊢
      refine ⟨fun x hx=>?_,?_⟩
      · obtain ⟨y,hy,rfl⟩:=List.mem_map.1 hx
        exact ih y (by have:=t3k hy;omega) (h1.1 y hy)
      · rcases h1.2 with g | g
        · exact .inl g
        · exact .inr (ih _ (by have:=t3l e';omega) g)
theorem tdm {s : VV → Int → Bool} {l : List VV} {ks : List Int} (h : ∀ x ∈ l,∀ k,s (ulV x) k = s x k) : all2 s (l.map ulV) ks = all2 s l ks:=by
  unfold all2
  rw [List.length_map]
  congr 1
  induction l generalizing ks with
  | nil=>simp
  | cons x r ih =>
    cases ks with
    | nil=>simp
    | cons k ks =>
      simp only [List.map_cons,List.zip_cons_cons,List.all_cons]
      rw [h x (by simp) k,ih fun y hy=>h y (by simp [hy])]
theorem tjx {T : Ty} (H : WfM T) (hv : ∀ i,i < T.len → (T.node (i : Nat)).kind ≠ 19) : ∀ d (v : VV),v.ht ≤ d → ∀ k,mem T (ulV v) k = mem T v k:=by
  intro d
  induction d with
  | zero=>intro v h;have:=t3m v;omega
  | succ d ih =>
    intro v hd
    obtain ⟨rk,hr⟩:=H.ctr
    have key : ∀ m k,(k.toNat < T.len → rk k.toNat < m) → 0 < m → mem T (ulV v) k = mem T v k:=by
      intro m
      induction m with
      | zero=>intro k _ h;omega
      | succ m ihm =>
        intro k hk _
        rw [tb3 H,tb3 H v k]
        rcases T.node_cases k with e | ⟨hi,e⟩
        · rw [e,t3p,t3p]
        · rw [e]
          have e1 : ∀ ks,all2 (mem T) (ulV v).kids ks = all2 (mem T) v.kids ks:=fun ks=>by
            rw [t6q];exact tdm fun x hx k=>ih x (by have:=t3d hx;omega) k
          have e2 : ∀ n,mapA (mem T) (ulV v) n = mapA (mem T) v n:=fun n=>by
            unfold mapA
            rw [tdl,t6q]
            congr 1
            have : ∀ (l : List VV) (ks : List KK),(∀ x ∈ l,∀ k,mem T (ulV x) k = mem T x k) → ((ks.zip (l.map ulV)).all fun p=>mem T p.2 (atN n p.1)) = (ks.zip l).all fun p=>mem T p.2 (atN n p.1):=by
              intro l
              induction l with
              | nil=>intro ks _;simp
              | cons x r ihr =>
                intro ks h
                cases ks with
                | nil=>simp
                | cons q ks =>
                  simp only [List.map_cons,List.zip_cons_cons,List.all_cons]
                  rw [h x (by simp) _,ihr ks fun y hy=>h y (by simp [hy])]
            exact this v.kids v.keys fun x hx k=>ih x (by have:=t3d hx;omega) k
          have e3 : ∀ n,funA (mem T) (ulV v) n = funA (mem T) v n:=fun n=>by
            unfold funA
            rw [tbr,t8m]
            congr 1
            have ke : ∀ x ∈ v.ents,entA (mem T) n.kids (ulE x) = entA (mem T) n.kids x:=fun x hx=>by
              have h2:=t3u hx
              unfold entA
              rw [t8n,t6w,t9t,tdm fun y hy k=>ih y (by have:=t3k hy;omega) k,ih x.res (by have:=t3l x;omega)]
            rw [Bool.eq_iff_iff,List.all_eq_true,List.all_eq_true]
            constructor
            · intro h x hx
              rw [← ke x hx]
              exact h _ (mem_entsE.2 (List.mem_map.2 ⟨x,hx,rfl⟩))
            · intro h x hx
              obtain ⟨y,hy,rfl⟩:=List.mem_map.1 (mem_entsE.1 hx)
              rw [ke y hy];exact h y hy
          have e4 : (T.node (k.toNat : Nat)).bool = true → ∀ x ∈ (T.node (k.toNat : Nat)).kids,mem T (ulV v) x = mem T v x:=fun hb x hx=>by
            have:=hr _ hi hb x hx
            have h2:=hk hi
            exact ihm x (fun _=>by omega) (by omega)
          have e5 : memS (mem T) (ulV v) (mem T (ulV v)) (T.node (k.toNat : Nat)) = memS (mem T) v (mem T (ulV v)) (T.node (k.toNat : Nat)):=by
            unfold memS
            rw [e1,e2,e3,taj,tbr,tdk,if_neg (hv _ hi),if_neg (hv _ hi)]
          rw [e5]
          exact t6b (fun _ _ _=>rfl) e4 (H.one _ hi)
    intro k
    exact key (rk k.toNat + 1) k (fun _=>by omega) (by omega)
end Go.Proofs.YtjgldaaofdpcgaaGreat
