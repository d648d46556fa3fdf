/- Walks and plain facts for the laws of membership, for all values and types that the heap holds (texts A3). -/
import Derived.Test.YtjgldaaofdpcgaaGreatW03
import Derived.Test.YtjgldaaofdpcgaaGreatW25
set_option linter.unusedVariables false
set_option linter.unusedSimpArgs false
namespace Go.Proofs.YtjgldaaofdpcgaaGreat
open Go.RowKit Go.Ident
set_option maxRecDepth 100000
inductive TagN : Int → Prop
  | mk (y : Int) : TagN y
structure DN (i n : Int) (X : TN) : Prop where
  plain : t1t X = true
  kind : kindN X = true
  edges : ∀ k ∈ t1u X,0 ≤ k ∧ k < n
  later : X.bool = true → ∀ k ∈ X.kids,i < k
  kids : X.kids.length ≤ 3
  fields : X.fields.length ≤ 3
theorem nc0 (w : World) (k lo hi : Int) (s : ByteArray) : NC w ⟨k,lo,hi,s,[],[],0,0⟩ [.int .i64 k,.int .i64 lo,.int .i64 hi,.string s,.slice none 0 0,.slice none 0 0,.int .i64 0,.int .i64 0] :=
  ⟨none,0,none,0,rfl,IS.nil' _,Rw.nil _ _ _ _ _⟩
theorem nck {w : World} {pv : Option Addr} {cv : Nat} {l : List Int} (k : Int) (h : IS w (.slice pv l.length cv) l) : NC w ⟨k,0,0,t0u,l,[],0,0⟩ [.int .i64 k,.int .i64 0,.int .i64 0,.string ⟨#[]⟩,.slice pv l.length cv,.slice none 0 0,.int .i64 0,.int .i64 0] :=
  ⟨pv,cv,none,0,rfl,h,Rw.nil _ _ _ _ _⟩
theorem t7v {i n : Int} {k lo hi : Int} {s : ByteArray} (h : t1t ⟨k,lo,hi,s,[],[],0,0⟩ = true) (h2 : kindN ⟨k,lo,hi,s,[],[],0,0⟩ = true) (h3 : (k == 13) = false) : DN i n ⟨k,lo,hi,s,[],[],0,0⟩ :=
  ⟨h, h2, by have : k ≠ 13 := by (intro e; subst e; simp at h3)
             simp [t1u,this],by simp,by simp,by simp⟩
def PlK (k : Int) : Bool:=decide (k = 1) || decide (k = 2) || decide (k = 5) || decide (k = 7) || decide (k = 8) || decide (k = 9) || decide (k = 11) || decide (k = 15)
theorem t8o {i n k : Int} (h : PlK k = true) : DN i n ⟨k,0,0,t0u,[],[],0,0⟩:=by
  simp only [PlK,Bool.or_eq_true,decide_eq_true_eq] at h
  rcases h with ((((((h | h) | h) | h) | h) | h) | h) | h <;> subst h <;> exact t7v (by decide) (by decide) (by decide)
theorem tj4 {i n : Int} {s : ByteArray} (h : isAtm s.data.toList = true) : DN i n ⟨6,0,0,s,[],[],0,0⟩:=t7v (by simp [t1t,textK]) (by simp [kindN,h]) (by decide)
theorem tjq {i n : Int} {s : ByteArray} (h : isVrb s.data.toList = true) : DN i n ⟨19,0,0,s,[],[],0,0⟩:=t7v (by simp [t1t,textK]) (by simp [kindN,h]) (by decide)
theorem tjr {i n : Int} {s : ByteArray} (h : s.size ≤ 64) : DN i n ⟨4,0,0,s,[],[],0,0⟩:=t7v (by simp [t1t,textK]) (by simp [kindN,h]) (by decide)
theorem tjs {i n a b : Int} (h : a ≤ b) : DN i n ⟨3,a,b,t0u,[],[],0,0⟩:=t7v (by simp [t1t,t0u,ByteArray.size]) (by simp [kindN,h]) (by decide)
theorem t7w {i n k : Int} {l : List Int} (h : (k = 10 ∧ l.length ≤ 2) ∨ (k = 12 ∧ l.length = 2) ∨ (k = 14 ∧ 1 ≤ l.length ∧ l.length ≤ 3)) (hk : ∀ x ∈ l,0 ≤ x ∧ x < n) : DN i n ⟨k,0,0,t0u,l,[],0,0⟩:=by
  rcases h with ⟨rfl,h⟩ | ⟨rfl,h⟩ | ⟨rfl,h,h2⟩
  all_goals exact ⟨by simp [t1t,textK,kidsK,t0u,ByteArray.size],by simp [kindN];omega,by simpa [t1u] using hk,by simp [TN.bool],by simp;omega,by simp⟩
theorem t9t {i n k : Int} {l : List Int} (h : (k = 18 ∧ l.length = 1) ∨ ((k = 16 ∨ k = 17) ∧ 2 ≤ l.length ∧ l.length ≤ 3)) (hk : ∀ x ∈ l,i + 1 ≤ x ∧ x < n) (hi : 0 ≤ i) : DN i n ⟨k,0,0,t0u,l,[],0,0⟩:=by
  have h1 : ∀ x ∈ l,0 ≤ x ∧ x < n:=fun x hx=>by have:=hk x hx;omega
  have h2 : ∀ x ∈ l,i < x:=fun x hx=>by have:=hk x hx;omega
  rcases h with ⟨rfl,h⟩ | ⟨rfl | rfl,h,h3⟩
  all_goals exact ⟨by simp [t1t,textK,kidsK,t0u,ByteArray.size],by simp [kindN];omega,by simpa [t1u] using h1,fun _=>h2,by simp;omega,by simp⟩
theorem th2 : ∀ q ∈ t7u 3,ascL cmpK q = true ∧ (∀ k ∈ q,valK k.kind k.text.data.toList = true) ∧ q.length ≤ 3:=by decide
theorem tjt {i n : Int} {X : TN} (h : DM n X) : DN i n X:=by
  obtain ⟨h1,h2,h3,h4,h5,h6,h7,h8,h9,h10⟩:=h
  obtain ⟨k,a,b,t,kids,fs,r0,r1⟩:=X
  simp only at h1 h2 h3 h4 h5 h6 h7 h8 h9 h10
  subst h1 h2 h3 h4 h5
  obtain ⟨g1,g2,g3⟩:=th2 _ h6
  have g4 : fs.length ≤ 3:=by rwa [List.length_map] at g3
  refine ⟨by simp [t1t,textK,t0u,ByteArray.size],?_,?_,by simp,by simp,g4⟩
  · have : t2g fs = true:=by
      simp only [t2g,g1,Bool.true_and,List.all_eq_true]
      exact fun f hf=>g2 _ (List.mem_map.2 ⟨f,hf,rfl⟩)
    simp [kindN,this]
  · intro x hx
    simp only [t1u,List.nil_append,List.mem_append,List.mem_map,if_true,List.mem_cons,List.not_mem_nil,or_false] at hx
    rcases hx with ⟨f,hf,rfl⟩ | rfl | rfl
    · exact h7 f hf
    · exact h8
    · exact ⟨h9,h10⟩
set_option maxHeartbeats 64000000 in
theorem thy (S : SD) (i n : Int) (w : World) (hS : SRC S w) (h0i : 0 ≤ i) (hin : i < n) (hn : n ≤ 1000) : Calls Tryz.prog 39 #[.pointer (some ⟨S.b,0,none⟩),.int .i64 i,.int .i64 n] w (GN (DN i n) S w):=by
  have hltS:=hS.lt
  have Hb:=zH (show w.heap.size ≠ S.b by omega)
  have Ha:=zH (SR.alloc hS (.cells #[.int .i64 0,.int .i64 0,.int .i64 0,.string ⟨#[]⟩,.slice none 0 0,.slice none 0 0,.int .i64 0,.int .i64 0] 48))
  have Hn:=zH (heap_alloc_new w (.cells #[.int .i64 0,.int .i64 0,.int .i64 0,.string ⟨#[]⟩,.slice none 0 0,.slice none 0 0,.int .i64 0,.int .i64 0] 48))
  have HEx:=zH (show lo (w.heap.size + 1) w.heap.size = true by simp [lo])
  have HEl:=zH (show ∀ k,k < w.heap.size → lo (w.heap.size + 1) k = true from fun k hk=>by simp [lo];omega)
  clear hS
  go_enter Tryz.func39,Tryz.ntmps39
  go_upto_region 1 with fail
  generalize w.alloc (.cells #[.int .i64 0,.int .i64 0,.int .i64 0,.string ⟨#[]⟩,.slice none 0 0,.slice none 0 0,.int .i64 0,.int .i64 0] 48) = w1 at *
  rcases (show ((i == n - 1) = true ∧ True) ∨ ((i == n - 1) = false ∧ i + 1 < n) by
    by_cases h : i = n - 1
    · left;simp [h]
    · right;exact ⟨by simp;omega,by omega⟩) with ⟨d0,hlt1⟩ | ⟨d0,hlt1⟩
  all_goals
    go_upto_region 5 with (go_at_call 24;refine (t0z S _ w1 Ha.out.src (by omega)).mono ?_;rintro e w2 ⟨y2,rfl,hs,h2a,h2b,-⟩;have h2b:=h2b (by omega);have H2:=zH (Ha.out.trans hs);have Z2:=zH ((hs.block (t0a Hn.out) Hb.out).trans Hn.out);clear hs;have T:=TagN.mk y2;rcases (show y2 = 0 ∨ y2 = 1 ∨ y2 = 2 ∨ y2 = 3 ∨ y2 = 4 ∨ y2 = 5 ∨ y2 = 6 ∨ y2 = 7 ∨ y2 = 8 ∨ y2 = 9 ∨ y2 = 10 ∨ y2 = 11 ∨ y2 = 12 ∨ y2 = 13 ∨ y2 = 14 ∨ y2 = 15 ∨ y2 = 16 ∨ y2 = 17 by omega) with rfl | rfl | rfl | rfl | rfl | rfl | rfl | rfl | rfl | rfl | rfl | rfl | rfl | rfl | rfl | rfl | rfl | rfl <;> first | (exfalso;omega) | skip)
  all_goals (first
    | (have q : TagN 0 := T
       clear q
       have hA:=heap_alloc_new w2 (.cells #[.int .i64 (-9223372036854775808),.int .i64 (0),.int .i64 (1),.int .i64 (2),.int .i64 (9223372036854775807)] 2)
       have ha : Below w2.heap.size w2 (w2.alloc (.cells #[.int .i64 (-9223372036854775808),.int .i64 (0),.int .i64 (1),.int .i64 (2),.int .i64 (9223372036854775807)] 2)):=(Below.refl _ _).alloc (Nat.le_refl _) _
       have HA:=zH hA;have H2a:=zH (H2.out.step ha);have Z2a:=zH ((ha.block _ (t0a Z2.out)).trans Z2.out);have Hba:=zH (show w2.heap.size ≠ S.b by have:=t0a Z2.out;omega)
       clear hA ha
       go_upto_region 7 with fail
       generalize (w2.alloc (.cells #[.int .i64 (-9223372036854775808),.int .i64 (0),.int .i64 (1),.int .i64 (2),.int .i64 (9223372036854775807)] 2)) = wa at *
       generalize w2.heap.size = ba at *
       go_upto_region 8 with (go_at_call 24;refine (t0z S 5 wa H2a.out.src (by omega)).mono ?_;rintro e w3 ⟨y3,rfl,hs,h3a,h3b,-⟩;have h3b:=h3b (by omega);have H3:=zH (H2a.out.trans hs);have Z3:=zH ((hs.block (t0a Z2a.out) Hb.out).trans Z2a.out);have A3:=zH ((hs.block (t0a HA.out) Hba.out).trans HA.out);clear hs;rcases (show y3 = 0 ∨ y3 = 1 ∨ y3 = 2 ∨ y3 = 3 ∨ y3 = 4 by omega) with rfl | rfl | rfl | rfl | rfl)
       all_goals
         have Hsd:=zH H3.out.src.drew
         have hlA:=t0a A3.out
         have u0 : w3.cell? ⟨ba,0,none⟩ = some (.int .i64 (-9223372036854775808)):=(by simp [World.cell?,A3.out])
         have Y0:=zH (show w3.drew.cell? ⟨ba,0,none⟩ = _ from u0)
         have u1 : w3.cell? ⟨ba,1,none⟩ = some (.int .i64 (0)):=(by simp [World.cell?,A3.out])
         have Y1:=zH (show w3.drew.cell? ⟨ba,1,none⟩ = _ from u1)
         have u2 : w3.cell? ⟨ba,2,none⟩ = some (.int .i64 (1)):=(by simp [World.cell?,A3.out])
         have Y2:=zH (show w3.drew.cell? ⟨ba,2,none⟩ = _ from u2)
         have u3 : w3.cell? ⟨ba,3,none⟩ = some (.int .i64 (2)):=(by simp [World.cell?,A3.out])
         have Y3:=zH (show w3.drew.cell? ⟨ba,3,none⟩ = _ from u3)
         have u4 : w3.cell? ⟨ba,4,none⟩ = some (.int .i64 (9223372036854775807)):=(by simp [World.cell?,A3.out])
         have Y4:=zH (show w3.drew.cell? ⟨ba,4,none⟩ = _ from u4)
         go_wp2_with (first
           | ((with_reducible refine Lex.t0w ?_);refine fE (by repeat first | exact LexK.t0t | refine LexK.t0o rfl ?_ | refine LexK.t0p (by decide +kernel) ?_ | refine LexK.t0c rfl (Eq.refl _) Y0.out ?_ | refine LexK.t0c rfl (Eq.refl _) Y1.out ?_ | refine LexK.t0c rfl (Eq.refl _) Y2.out ?_ | refine LexK.t0c rfl (Eq.refl _) Y3.out ?_ | refine LexK.t0c rfl (Eq.refl _) Y4.out ?_) ?_)
           | ((with_reducible refine Lex.t0q ?_);refine LexK.t0h (fun x=>x = ba) (by kernel_rfl) (by decide +kernel) ?_)
           | (with_reducible first | refine qH ?_ | refine LexK.t0s ?_ | refine LexK.t0v ?_)
           | ((with_reducible refine Lex.t1b ?_);first | (refine LexK.t0e hex4.out ?_) | (refine LexK.t0e (LexK.Ext.alloc _ _) ?_) | (refine LexK.t0e (LexK.Ext.refl _) ?_))
           | (go_at_call 24;refine (t0z S _ w3.drew Hsd.out (by omega)).mono ?_;rintro e w4 ⟨y4,rfl,hs,h4a,h4b,-⟩;have h4b:=h4b (by omega);have H4:=zH (H3.out.drew.trans hs);have Z4:=zH ((hs.block (by exact t0a Z3.out) Hb.out).trans (show w3.drew.heap[w.heap.size]? = _ from Z3.out));have hA4:=(hs.block (by exact hlA) Hba.out).trans (show w3.drew.heap[ba]? = _ from A3.out);have hex4:=zH (t5t hs Hba.out (by exact hlA));have v0 : w4.cell? ⟨ba,0,none⟩ = some (.int .i64 (-9223372036854775808)):=(by simp [World.cell?,hA4]);have v1 : w4.cell? ⟨ba,1,none⟩ = some (.int .i64 (0)):=(by simp [World.cell?,hA4]);have v2 : w4.cell? ⟨ba,2,none⟩ = some (.int .i64 (1)):=(by simp [World.cell?,hA4]);have v3 : w4.cell? ⟨ba,3,none⟩ = some (.int .i64 (2)):=(by simp [World.cell?,hA4]);have v4 : w4.cell? ⟨ba,4,none⟩ = some (.int .i64 (9223372036854775807)):=(by simp [World.cell?,hA4]);clear hs hA4;rcases (show y4 = 0 ∨ y4 = 1 ∨ y4 = 2 ∨ y4 = 3 ∨ y4 = 4 by omega) with rfl | rfl | rfl | rfl | rfl <;> first | (exfalso;omega) | skip)
           | (with_reducible refine wpList_store_row rfl 48 (.tmp 6) (.tmp 35) rfl _ _ rfl rfl _ _ Z4.out (by kernel_rfl) (by kernel_rfl) (by kernel_rfl) ?_))
       all_goals
         refine bodyPost_ret (results_cell_row rfl _ _ w.heap.size 48 _ (0,0) _ rfl (setRow_heap _ _ _ _ _ _ Z4.out) rfl rfl (by kernel_rfl)) rfl ?_
         exact ⟨_,⟨3,_,_,t0u,[],[],0,0⟩,rfl,nc0 _ _ _ _ _,tjs (by decide),H4.out.row (Nat.le_refl _) Hb.out _⟩)
    | skip)
  all_goals (first
    | (have q : TagN 1 := T
       clear q
       go_wp2_with (first
         | (go_at_call 71;refine (t5n S w2 H2.out.src).mono ?_;rintro e w3 ⟨s,rfl,hs,hp⟩;have H3:=zH (H2.out.trans hs);have Z3:=zH ((hs.block (t0a Z2.out) Hb.out).trans Z2.out);clear hs)
         | (with_reducible refine wpList_store_row rfl 48 (.tmp 6) (.tmp 40) rfl _ _ rfl rfl _ _ Z3.out (by kernel_rfl) (by kernel_rfl) (by kernel_rfl) ?_))
       refine bodyPost_ret (results_cell_row rfl _ _ w.heap.size 48 _ (0,0) _ rfl (setRow_heap _ _ _ _ _ _ Z3.out) rfl rfl (by kernel_rfl)) rfl ?_
       exact ⟨_,⟨6,0,0,s,[],[],0,0⟩,rfl,nc0 _ _ _ _ _,tj4 hp,H3.out.row (Nat.le_refl _) Hb.out _⟩)
    | skip)
  all_goals (first
    | (have q : TagN 2 := T
       clear q
       go_wp2_with (first
         | (with_reducible refine wpList_store_row rfl 48 (.tmp 6) (.tmp 43) rfl _ _ rfl rfl _ _ Z2.out (by kernel_rfl) (by kernel_rfl) (by kernel_rfl) ?_))
       refine bodyPost_ret (results_cell_row rfl _ _ w.heap.size 48 _ (0,0) _ rfl (setRow_heap _ _ _ _ _ _ Z2.out) rfl rfl (by kernel_rfl)) rfl ?_
       exact ⟨_,⟨7,0,0,t0u,[],[],0,0⟩,rfl,nc0 _ _ _ _ _,t8o rfl,H2.out.row (Nat.le_refl _) Hb.out _⟩)
    | skip)
  all_goals (first
    | (have q : TagN 3 := T
       clear q
       go_wp2_with (first
         | (go_at_call 72;refine (t8m S w2 H2.out.src).mono ?_;rintro e w3 ⟨s,rfl,hs,hp⟩;have H3:=zH (H2.out.trans hs);have Z3:=zH ((hs.block (t0a Z2.out) Hb.out).trans Z2.out);clear hs)
         | (with_reducible refine wpList_store_row rfl 48 (.tmp 6) (.tmp 48) rfl _ _ rfl rfl _ _ Z3.out (by kernel_rfl) (by kernel_rfl) (by kernel_rfl) ?_))
       refine bodyPost_ret (results_cell_row rfl _ _ w.heap.size 48 _ (0,0) _ rfl (setRow_heap _ _ _ _ _ _ Z3.out) rfl rfl (by kernel_rfl)) rfl ?_
       exact ⟨_,⟨4,0,0,s,[],[],0,0⟩,rfl,nc0 _ _ _ _ _,tjr hp,H3.out.row (Nat.le_refl _) Hb.out _⟩)
    | skip)
  all_goals (first
    | (have q : TagN 4 := T
       clear q
       have hA:=heap_alloc_new w2 (.cells #[.int .i64 5,.int .i64 8,.int .i64 11,.int .i64 15] 3)
       have ha : Below w2.heap.size w2 (w2.alloc (.cells #[.int .i64 5,.int .i64 8,.int .i64 11,.int .i64 15] 3)):=(Below.refl _ _).alloc (Nat.le_refl _) _
       have HA:=zH hA;have H2a:=zH (H2.out.step ha);have Z2a:=zH ((ha.block _ (t0a Z2.out)).trans Z2.out);have Hba:=zH (show w2.heap.size ≠ S.b by have:=t0a Z2.out;omega)
       clear hA ha
       go_wp2_with (first
         | (go_at_call 24;refine (t0z S 4 (w2.alloc (.cells #[.int .i64 5,.int .i64 8,.int .i64 11,.int .i64 15] 3)) H2a.out.src (by omega)).mono ?_;rintro e w3 ⟨y3,rfl,hs,h3a,h3b,-⟩;have h3b:=h3b (by omega);have H3:=zH (H2a.out.trans hs);have Z3:=zH ((hs.block (t0a Z2a.out) Hb.out).trans Z2a.out);have hA3:=(hs.block (t0a HA.out) Hba.out).trans HA.out;have u0 : w3.cell? ⟨w2.heap.size,0,none⟩ = some (.int .i64 5):=(by simp [World.cell?,hA3]);have u1 : w3.cell? ⟨w2.heap.size,1,none⟩ = some (.int .i64 8):=(by simp [World.cell?,hA3]);have u2 : w3.cell? ⟨w2.heap.size,2,none⟩ = some (.int .i64 11):=(by simp [World.cell?,hA3]);have u3 : w3.cell? ⟨w2.heap.size,3,none⟩ = some (.int .i64 15):=(by simp [World.cell?,hA3]);clear hs;rcases (show y3 = 0 ∨ y3 = 1 ∨ y3 = 2 ∨ y3 = 3 by omega) with rfl | rfl | rfl | rfl)
         | (with_reducible refine wpList_store_row rfl 48 (.tmp 6) (.tmp 56) rfl _ _ rfl rfl _ _ Z3.out (by kernel_rfl) (by kernel_rfl) (by kernel_rfl) ?_))
       all_goals
         refine bodyPost_ret (results_cell_row rfl _ _ w.heap.size 48 _ (0,0) _ rfl (setRow_heap _ _ _ _ _ _ Z3.out) rfl rfl (by kernel_rfl)) rfl ?_
         exact ⟨_,⟨_,0,0,t0u,[],[],0,0⟩,rfl,nc0 _ _ _ _ _,t8o rfl,H3.out.row (Nat.le_refl _) Hb.out _⟩)
    | skip)
  all_goals (first
    | (have q : TagN 5 := T
       clear q
       go_wp2_with (first
         | (with_reducible refine wpList_store_row rfl 48 (.tmp 6) (.tmp 59) rfl _ _ rfl rfl _ _ Z2.out (by kernel_rfl) (by kernel_rfl) (by kernel_rfl) ?_))
       refine bodyPost_ret (results_cell_row rfl _ _ w.heap.size 48 _ (0,0) _ rfl (setRow_heap _ _ _ _ _ _ Z2.out) rfl rfl (by kernel_rfl)) rfl ?_
       exact ⟨_,⟨9,0,0,t0u,[],[],0,0⟩,rfl,nc0 _ _ _ _ _,t8o rfl,H2.out.row (Nat.le_refl _) Hb.out _⟩)
    | skip)
  all_goals (first
    | (have q : TagN 6 := T
       clear q
       have hA:=heap_alloc_new w2 (.cells #[.int .i64 2,.int .i64 1] 3)
       have ha : Below w2.heap.size w2 (w2.alloc (.cells #[.int .i64 2,.int .i64 1] 3)):=(Below.refl _ _).alloc (Nat.le_refl _) _
       have HA:=zH hA;have H2a:=zH (H2.out.step ha);have Z2a:=zH ((ha.block _ (t0a Z2.out)).trans Z2.out);have Hba:=zH (show w2.heap.size ≠ S.b by have:=t0a Z2.out;omega)
       clear hA ha
       go_wp2_with (first
         | (go_at_call 24;refine (t0z S 2 (w2.alloc (.cells #[.int .i64 2,.int .i64 1] 3)) H2a.out.src (by omega)).mono ?_;rintro e w3 ⟨y3,rfl,hs,h3a,h3b,-⟩;have h3b:=h3b (by omega);have H3:=zH (H2a.out.trans hs);have Z3:=zH ((hs.block (t0a Z2a.out) Hb.out).trans Z2a.out);have hA3:=(hs.block (t0a HA.out) Hba.out).trans HA.out;have u0 : w3.cell? ⟨w2.heap.size,0,none⟩ = some (.int .i64 2):=(by simp [World.cell?,hA3]);have u1 : w3.cell? ⟨w2.heap.size,1,none⟩ = some (.int .i64 1):=(by simp [World.cell?,hA3]);clear hs;rcases (show y3 = 0 ∨ y3 = 1 by omega) with rfl | rfl)
         | (with_reducible refine wpList_store_row rfl 48 (.tmp 6) (.tmp 67) rfl _ _ rfl rfl _ _ Z3.out (by kernel_rfl) (by kernel_rfl) (by kernel_rfl) ?_))
       all_goals
         refine bodyPost_ret (results_cell_row rfl _ _ w.heap.size 48 _ (0,0) _ rfl (setRow_heap _ _ _ _ _ _ Z3.out) rfl rfl (by kernel_rfl)) rfl ?_
         exact ⟨_,⟨_,0,0,t0u,[],[],0,0⟩,rfl,nc0 _ _ _ _ _,t8o rfl,H3.out.row (Nat.le_refl _) Hb.out _⟩)
    | skip)
  all_goals (first
    | (have q : TagN 7 := T
       clear q
       go_wp2_with (first
         | (go_at_call 48;refine (t9h S w2 H2.out.src).mono ?_;rintro e w3 ⟨s,rfl,hs,hp⟩;have H3:=zH (H2.out.trans hs);have Z3:=zH ((hs.block (t0a Z2.out) Hb.out).trans Z2.out);clear hs)
         | (with_reducible refine wpList_store_row rfl 48 (.tmp 6) (.tmp 72) rfl _ _ rfl rfl _ _ Z3.out (by kernel_rfl) (by kernel_rfl) (by kernel_rfl) ?_))
       refine bodyPost_ret (results_cell_row rfl _ _ w.heap.size 48 _ (0,0) _ rfl (setRow_heap _ _ _ _ _ _ Z3.out) rfl rfl (by kernel_rfl)) rfl ?_
       exact ⟨_,⟨19,0,0,s,[],[],0,0⟩,rfl,nc0 _ _ _ _ _,tjq hp,H3.out.row (Nat.le_refl _) Hb.out _⟩)
    | skip)
  all_goals (first
    | (have q : TagN 8 := T
       clear q
       go_wp2_with (first
         | (go_at_call 24;refine (t0z S 3 w2 H2.out.src (by omega)).mono ?_;rintro e w3 ⟨y3,rfl,hs,h3a,h3b,-⟩;have h3b:=h3b (by omega);have H3:=zH (H2.out.trans hs);have Z3:=zH ((hs.block (t0a Z2.out) Hb.out).trans Z2.out);clear hs;obtain ⟨m3,hm3⟩ : ∃ m : Nat,(m : Int) = y3:=⟨(y3).toNat,by omega⟩)
         | (go_at_call 73;(try rw [← hm3]);refine (t2o S (m3) (0) n w3 H3.out.src (by omega) (by omega) (by omega) hn).mono ?_;rintro e w4 ⟨v,l,rfl,hi,hl,hk,hs⟩;obtain ⟨pv,cv,rfl,hcv⟩:=hi;have HI:=zH (show IS (we (lo (w.heap.size + 1)) w4) (.slice pv l.length cv) l from IS.sub (t1m w4 (show w.heap.size + 1 ≤ w3.heap.size from t0a Z3.out)) ⟨pv,cv,rfl,hcv⟩);have Hk:=zH hk;have Hl:=zH hl;have H4:=zH (H3.out.trans hs);have Z4:=zH ((hs.block (t0a Z3.out) Hb.out).trans Z3.out);clear hs hcv hk hl)
         | (with_reducible refine wpList_store_row rfl 48 (.tmp 6) (.tmp 81) rfl _ _ rfl rfl _ _ Z4.out (by kernel_rfl) (by kernel_rfl) (by kernel_rfl) ?_))
       refine bodyPost_ret (results_cell_row rfl _ _ w.heap.size 48 _ (0,0) _ rfl (setRow_heap _ _ _ _ _ _ Z4.out) rfl rfl (by kernel_rfl)) rfl ?_
       exact ⟨_,⟨10,0,0,t0u,l,[],0,0⟩,rfl,t4i (nck _ HI.out) HEx.out HEl.out _,t7w (.inl ⟨rfl,by have:=Hl.out;omega⟩) Hk.out,H4.out.row (Nat.le_refl _) Hb.out _⟩)
    | skip)
  all_goals (first
    | (have q : TagN 9 := T
       clear q
       go_wp2_with (first
         | (go_at_call 24;refine (t0z S 3 w2 H2.out.src (by omega)).mono ?_;rintro e w3 ⟨y3,rfl,hs,h3a,h3b,-⟩;have h3b:=h3b (by omega);have H3:=zH (H2.out.trans hs);have Z3:=zH ((hs.block (t0a Z2.out) Hb.out).trans Z2.out);clear hs;obtain ⟨m3,hm3⟩ : ∃ m : Nat,(m : Int) = y3:=⟨(y3).toNat,by omega⟩)
         | (go_at_call 73;(try rw [← hm3]);refine (t2o S (m3) (0) n w3 H3.out.src (by omega) (by omega) (by omega) hn).mono ?_;rintro e w4 ⟨v,l,rfl,hi,hl,hk,hs⟩;obtain ⟨pv,cv,rfl,hcv⟩:=hi;have HI:=zH (show IS (we (lo (w.heap.size + 1)) w4) (.slice pv l.length cv) l from IS.sub (t1m w4 (show w.heap.size + 1 ≤ w3.heap.size from t0a Z3.out)) ⟨pv,cv,rfl,hcv⟩);have Hk:=zH hk;have Hl:=zH hl;have H4:=zH (H3.out.trans hs);have Z4:=zH ((hs.block (t0a Z3.out) Hb.out).trans Z3.out);clear hs hcv hk hl)
         | (with_reducible refine wpList_store_row rfl 48 (.tmp 6) (.tmp 81) rfl _ _ rfl rfl _ _ Z4.out (by kernel_rfl) (by kernel_rfl) (by kernel_rfl) ?_))
       refine bodyPost_ret (results_cell_row rfl _ _ w.heap.size 48 _ (0,0) _ rfl (setRow_heap _ _ _ _ _ _ Z4.out) rfl rfl (by kernel_rfl)) rfl ?_
       exact ⟨_,⟨10,0,0,t0u,l,[],0,0⟩,rfl,t4i (nck _ HI.out) HEx.out HEl.out _,t7w (.inl ⟨rfl,by have:=Hl.out;omega⟩) Hk.out,H4.out.row (Nat.le_refl _) Hb.out _⟩)
    | skip)
  all_goals (first
    | (have q : TagN 10 := T
       clear q
       go_wp2_with (first
         | (go_at_call 73;(try rw [← hm3]);refine (t2o S (2) (0) n w2 H2.out.src (by omega) (by omega) (by omega) hn).mono ?_;rintro e w4 ⟨v,l,rfl,hi,hl,hk,hs⟩;obtain ⟨pv,cv,rfl,hcv⟩:=hi;have HI:=zH (show IS (we (lo (w.heap.size + 1)) w4) (.slice pv l.length cv) l from IS.sub (t1m w4 (show w.heap.size + 1 ≤ w2.heap.size from t0a Z2.out)) ⟨pv,cv,rfl,hcv⟩);have Hk:=zH hk;have Hl:=zH hl;have H4:=zH (H2.out.trans hs);have Z4:=zH ((hs.block (t0a Z2.out) Hb.out).trans Z2.out);clear hs hcv hk hl)
         | (with_reducible refine wpList_store_row rfl 48 (.tmp 6) (.tmp 87) rfl _ _ rfl rfl _ _ Z4.out (by kernel_rfl) (by kernel_rfl) (by kernel_rfl) ?_))
       refine bodyPost_ret (results_cell_row rfl _ _ w.heap.size 48 _ (0,0) _ rfl (setRow_heap _ _ _ _ _ _ Z4.out) rfl rfl (by kernel_rfl)) rfl ?_
       exact ⟨_,⟨12,0,0,t0u,l,[],0,0⟩,rfl,t4i (nck _ HI.out) HEx.out HEl.out _,t7w (.inr (.inl ⟨rfl,by have:=Hl.out;omega⟩)) Hk.out,H4.out.row (Nat.le_refl _) Hb.out _⟩)
    | skip)
  all_goals (first
    | (have q : TagN 11 := T
       clear q
       go_wp2_with (first
         | (go_at_call 74;refine (tem S n w2 H2.out.src (by omega) hn).mono ?_;rintro e w4 ⟨cs,X,rfl,hx,hq,hs⟩;obtain ⟨p1,c1,p2,c2,rfl,hx1,hx2⟩:=hx;have HX:=zH (show NC (we (lo (w.heap.size + 1)) w4) X _ from NC.sub (t1m w4 (show w.heap.size + 1 ≤ w2.heap.size from t0a Z2.out)) ⟨p1,c1,p2,c2,rfl,hx1,hx2⟩);have H4:=zH (H2.out.trans hs);have Z4:=zH ((hs.block (t0a Z2.out) Hb.out).trans Z2.out);clear hs hx1 hx2)
         | (with_reducible refine wpList_store_row rfl 48 (.tmp 6) (.tmp 92) rfl _ _ rfl rfl _ _ Z4.out (by kernel_rfl) (by kernel_rfl) (by kernel_rfl) ?_))
       refine bodyPost_ret (results_cell_row rfl _ _ w.heap.size 48 _ (0,0) _ rfl (setRow_heap _ _ _ _ _ _ Z4.out) rfl rfl (by kernel_rfl)) rfl ?_
       exact ⟨_,X,rfl,t4i HX.out HEx.out HEl.out _,tjt hq,H4.out.row (Nat.le_refl _) Hb.out _⟩)
    | skip)
  all_goals (first
    | (have q : TagN 12 := T
       clear q
       go_wp2_with (first
         | (go_at_call 24;refine (t0z S 3 w2 H2.out.src (by omega)).mono ?_;rintro e w3 ⟨y3,rfl,hs,h3a,h3b,-⟩;have h3b:=h3b (by omega);have H3:=zH (H2.out.trans hs);have Z3:=zH ((hs.block (t0a Z2.out) Hb.out).trans Z2.out);clear hs;obtain ⟨m3,hm3⟩ : ∃ m : Nat,(m : Int) = 1 + y3:=⟨(1 + y3).toNat,by omega⟩)
         | (go_at_call 73;(try rw [← hm3]);refine (t2o S (m3) (0) n w3 H3.out.src (by omega) (by omega) (by omega) hn).mono ?_;rintro e w4 ⟨v,l,rfl,hi,hl,hk,hs⟩;obtain ⟨pv,cv,rfl,hcv⟩:=hi;have HI:=zH (show IS (we (lo (w.heap.size + 1)) w4) (.slice pv l.length cv) l from IS.sub (t1m w4 (show w.heap.size + 1 ≤ w3.heap.size from t0a Z3.out)) ⟨pv,cv,rfl,hcv⟩);have Hk:=zH hk;have Hl:=zH hl;have H4:=zH (H3.out.trans hs);have Z4:=zH ((hs.block (t0a Z3.out) Hb.out).trans Z3.out);clear hs hcv hk hl)
         | (with_reducible refine wpList_store_row rfl 48 (.tmp 6) (.tmp 102) rfl _ _ rfl rfl _ _ Z4.out (by kernel_rfl) (by kernel_rfl) (by kernel_rfl) ?_))
       refine bodyPost_ret (results_cell_row rfl _ _ w.heap.size 48 _ (0,0) _ rfl (setRow_heap _ _ _ _ _ _ Z4.out) rfl rfl (by kernel_rfl)) rfl ?_
       exact ⟨_,⟨14,0,0,t0u,l,[],0,0⟩,rfl,t4i (nck _ HI.out) HEx.out HEl.out _,t7w (.inr (.inr ⟨rfl,by have:=Hl.out;omega,by have:=Hl.out;omega⟩)) Hk.out,H4.out.row (Nat.le_refl _) Hb.out _⟩)
    | skip)
  all_goals (first
    | (have q : TagN 13 := T
       clear q
       go_wp2_with (first
         | (go_at_call 24;refine (t0z S 3 w2 H2.out.src (by omega)).mono ?_;rintro e w3 ⟨y3,rfl,hs,h3a,h3b,-⟩;have h3b:=h3b (by omega);have H3:=zH (H2.out.trans hs);have Z3:=zH ((hs.block (t0a Z2.out) Hb.out).trans Z2.out);clear hs;obtain ⟨m3,hm3⟩ : ∃ m : Nat,(m : Int) = 1 + y3:=⟨(1 + y3).toNat,by omega⟩)
         | (go_at_call 73;(try rw [← hm3]);refine (t2o S (m3) (0) n w3 H3.out.src (by omega) (by omega) (by omega) hn).mono ?_;rintro e w4 ⟨v,l,rfl,hi,hl,hk,hs⟩;obtain ⟨pv,cv,rfl,hcv⟩:=hi;have HI:=zH (show IS (we (lo (w.heap.size + 1)) w4) (.slice pv l.length cv) l from IS.sub (t1m w4 (show w.heap.size + 1 ≤ w3.heap.size from t0a Z3.out)) ⟨pv,cv,rfl,hcv⟩);have Hk:=zH hk;have Hl:=zH hl;have H4:=zH (H3.out.trans hs);have Z4:=zH ((hs.block (t0a Z3.out) Hb.out).trans Z3.out);clear hs hcv hk hl)
         | (with_reducible refine wpList_store_row rfl 48 (.tmp 6) (.tmp 102) rfl _ _ rfl rfl _ _ Z4.out (by kernel_rfl) (by kernel_rfl) (by kernel_rfl) ?_))
       refine bodyPost_ret (results_cell_row rfl _ _ w.heap.size 48 _ (0,0) _ rfl (setRow_heap _ _ _ _ _ _ Z4.out) rfl rfl (by kernel_rfl)) rfl ?_
       exact ⟨_,⟨14,0,0,t0u,l,[],0,0⟩,rfl,t4i (nck _ HI.out) HEx.out HEl.out _,t7w (.inr (.inr ⟨rfl,by have:=Hl.out;omega,by have:=Hl.out;omega⟩)) Hk.out,H4.out.row (Nat.le_refl _) Hb.out _⟩)
    | skip)
  all_goals (first
    | (have q : TagN 14 := T
       clear q
       go_wp2_with (first
         | (go_at_call 73;(try rw [← hm3]);refine (t2o S (1) (i + 1) n w2 H2.out.src (by omega) (by omega) (by omega) hn).mono ?_;rintro e w4 ⟨v,l,rfl,hi,hl,hk,hs⟩;obtain ⟨pv,cv,rfl,hcv⟩:=hi;have HI:=zH (show IS (we (lo (w.heap.size + 1)) w4) (.slice pv l.length cv) l from IS.sub (t1m w4 (show w.heap.size + 1 ≤ w2.heap.size from t0a Z2.out)) ⟨pv,cv,rfl,hcv⟩);have Hk:=zH hk;have Hl:=zH hl;have H4:=zH (H2.out.trans hs);have Z4:=zH ((hs.block (t0a Z2.out) Hb.out).trans Z2.out);clear hs hcv hk hl)
         | (with_reducible refine wpList_store_row rfl 48 (.tmp 6) (.tmp 110) rfl _ _ rfl rfl _ _ Z4.out (by kernel_rfl) (by kernel_rfl) (by kernel_rfl) ?_))
       refine bodyPost_ret (results_cell_row rfl _ _ w.heap.size 48 _ (0,0) _ rfl (setRow_heap _ _ _ _ _ _ Z4.out) rfl rfl (by kernel_rfl)) rfl ?_
       exact ⟨_,⟨18,0,0,t0u,l,[],0,0⟩,rfl,t4i (nck _ HI.out) HEx.out HEl.out _,t9t (.inl ⟨rfl,by have:=Hl.out;omega⟩) Hk.out h0i,H4.out.row (Nat.le_refl _) Hb.out _⟩)
    | skip)
  all_goals (first
    | (have q : TagN 15 := T
       clear q
       go_wp2_with (first
         | (go_at_call 73;(try rw [← hm3]);refine (t2o S (2) (i + 1) n w2 H2.out.src (by omega) (by omega) (by omega) hn).mono ?_;rintro e w4 ⟨v,l,rfl,hi,hl,hk,hs⟩;obtain ⟨pv,cv,rfl,hcv⟩:=hi;have HI:=zH (show IS (we (lo (w.heap.size + 1)) w4) (.slice pv l.length cv) l from IS.sub (t1m w4 (show w.heap.size + 1 ≤ w2.heap.size from t0a Z2.out)) ⟨pv,cv,rfl,hcv⟩);have Hk:=zH hk;have Hl:=zH hl;have H4:=zH (H2.out.trans hs);have Z4:=zH ((hs.block (t0a Z2.out) Hb.out).trans Z2.out);clear hs hcv hk hl)
         | (with_reducible refine wpList_store_row rfl 48 (.tmp 6) (.tmp 118) rfl _ _ rfl rfl _ _ Z4.out (by kernel_rfl) (by kernel_rfl) (by kernel_rfl) ?_))
       refine bodyPost_ret (results_cell_row rfl _ _ w.heap.size 48 _ (0,0) _ rfl (setRow_heap _ _ _ _ _ _ Z4.out) rfl rfl (by kernel_rfl)) rfl ?_
       exact ⟨_,⟨17,0,0,t0u,l,[],0,0⟩,rfl,t4i (nck _ HI.out) HEx.out HEl.out _,t9t (.inr ⟨.inr rfl,by have:=Hl.out;omega,by have:=Hl.out;omega⟩) Hk.out h0i,H4.out.row (Nat.le_refl _) Hb.out _⟩)
    | skip)
  all_goals (first
    | (have q : TagN 16 := T
       clear q
       go_wp2_with (first
         | (go_at_call 24;refine (t0z S 2 w2 H2.out.src (by omega)).mono ?_;rintro e w3 ⟨y3,rfl,hs,h3a,h3b,-⟩;have h3b:=h3b (by omega);have H3:=zH (H2.out.trans hs);have Z3:=zH ((hs.block (t0a Z2.out) Hb.out).trans Z2.out);clear hs;obtain ⟨m3,hm3⟩ : ∃ m : Nat,(m : Int) = 2 + y3:=⟨(2 + y3).toNat,by omega⟩)
         | (go_at_call 73;(try rw [← hm3]);refine (t2o S (m3) (i + 1) n w3 H3.out.src (by omega) (by omega) (by omega) hn).mono ?_;rintro e w4 ⟨v,l,rfl,hi,hl,hk,hs⟩;obtain ⟨pv,cv,rfl,hcv⟩:=hi;have HI:=zH (show IS (we (lo (w.heap.size + 1)) w4) (.slice pv l.length cv) l from IS.sub (t1m w4 (show w.heap.size + 1 ≤ w3.heap.size from t0a Z3.out)) ⟨pv,cv,rfl,hcv⟩);have Hk:=zH hk;have Hl:=zH hl;have H4:=zH (H3.out.trans hs);have Z4:=zH ((hs.block (t0a Z3.out) Hb.out).trans Z3.out);clear hs hcv hk hl)
         | (with_reducible refine wpList_store_row rfl 48 (.tmp 6) (.tmp 127) rfl _ _ rfl rfl _ _ Z4.out (by kernel_rfl) (by kernel_rfl) (by kernel_rfl) ?_))
       refine bodyPost_ret (results_cell_row rfl _ _ w.heap.size 48 _ (0,0) _ rfl (setRow_heap _ _ _ _ _ _ Z4.out) rfl rfl (by kernel_rfl)) rfl ?_
       exact ⟨_,⟨16,0,0,t0u,l,[],0,0⟩,rfl,t4i (nck _ HI.out) HEx.out HEl.out _,t9t (.inr ⟨.inl rfl,by have:=Hl.out;omega,by have:=Hl.out;omega⟩) Hk.out h0i,H4.out.row (Nat.le_refl _) Hb.out _⟩)
    | skip)
  all_goals (first
    | (have q : TagN 17 := T
       clear q
       go_wp2_with (first
         | (go_at_call 24;refine (t0z S 2 w2 H2.out.src (by omega)).mono ?_;rintro e w3 ⟨y3,rfl,hs,h3a,h3b,-⟩;have h3b:=h3b (by omega);have H3:=zH (H2.out.trans hs);have Z3:=zH ((hs.block (t0a Z2.out) Hb.out).trans Z2.out);clear hs;obtain ⟨m3,hm3⟩ : ∃ m : Nat,(m : Int) = 2 + y3:=⟨(2 + y3).toNat,by omega⟩)
         | (go_at_call 73;(try rw [← hm3]);refine (t2o S (m3) (i + 1) n w3 H3.out.src (by omega) (by omega) (by omega) hn).mono ?_;rintro e w4 ⟨v,l,rfl,hi,hl,hk,hs⟩;obtain ⟨pv,cv,rfl,hcv⟩:=hi;have HI:=zH (show IS (we (lo (w.heap.size + 1)) w4) (.slice pv l.length cv) l from IS.sub (t1m w4 (show w.heap.size + 1 ≤ w3.heap.size from t0a Z3.out)) ⟨pv,cv,rfl,hcv⟩);have Hk:=zH hk;have Hl:=zH hl;have H4:=zH (H3.out.trans hs);have Z4:=zH ((hs.block (t0a Z3.out) Hb.out).trans Z3.out);clear hs hcv hk hl)
         | (with_reducible refine wpList_store_row rfl 48 (.tmp 6) (.tmp 127) rfl _ _ rfl rfl _ _ Z4.out (by kernel_rfl) (by kernel_rfl) (by kernel_rfl) ?_))
       refine bodyPost_ret (results_cell_row rfl _ _ w.heap.size 48 _ (0,0) _ rfl (setRow_heap _ _ _ _ _ _ Z4.out) rfl rfl (by kernel_rfl)) rfl ?_
       exact ⟨_,⟨16,0,0,t0u,l,[],0,0⟩,rfl,t4i (nck _ HI.out) HEx.out HEl.out _,t9t (.inr ⟨.inl rfl,by have:=Hl.out;omega,by have:=Hl.out;omega⟩) Hk.out h0i,H4.out.row (Nat.le_refl _) Hb.out _⟩)
    | skip)
end Go.Proofs.YtjgldaaofdpcgaaGreat
