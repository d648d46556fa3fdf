/- Walks and plain facts for the laws of membership, for all values and types that the heap holds (texts Z4 Z5). -/
import Derived.Test.YtjgldaaofdpcgaaGreatW03
import Derived.Test.YtjgldaaofdpcgaaGreatW20
set_option linter.unusedVariables false
set_option linter.unusedSimpArgs false
namespace Go.Proofs.YtjgldaaofdpcgaaGreat
open Go.RowKit Go.Ident
set_option maxRecDepth 100000
theorem SR.app {S : SD} {w w1 w2 : World} (h : SR S w w1) (k : Below w.heap.size w1 w2) : SR S w w2:=h.own k (k.block _ h.src0.lt)
theorem SR.owns {S : SD} {w w1 : World} (h : SR S w w1) {B n : Nat} {e : TypeId} {size : Nat} {v : Value} {xs : List Value} (ho : w.ownsRow B e size v n xs) (hB : S.b < B) : w1.ownsRow B e size v n xs :=
  t3l ho fun g hg=>h.block (ho.lt g hg).2 (by have:=(ho.lt g hg).1;omega)
theorem lo_b {S : SD} {w : World} (h : SRC S w) {B : Nat} (hB : w.heap.size ≤ B) : lo B S.b = true:=by have:=h.lt;simp [lo];omega
def LR (S : SD) (w : World) (e : Ending) (w' : World) : Prop:=∃ v l,e = .returned v ∧ SS (we (lo w.heap.size) w') v l ∧ l.length ≤ 1000 ∧ SR S w w'
theorem tgz {w : World} {B B' : Nat} {v : Value} {l : List ByteArray} (h : w.ownsRow B 9 1 v l.length (l.map .string)) (hB : B' ≤ B) (hl : l.length ≤ 1000) : SS (we (lo B') w) v l:=by
  have hc : Ch 1 SC l (l.map .string):=by
    refine ⟨by simp,fun i hi=>?_⟩
    unfold SC
    rw [Nat.mul_one]
    refine List.ext_getElem? fun j=>?_
    cases j with
    | zero=>simp [List.getElem?_take,List.getElem?_drop,hi]
    | succ j=>simp [List.getElem?_take]
  exact t1o (t1q h ((t1g B').mono hB)) hc (by omega)
set_option maxHeartbeats 16000000 in
theorem t6k (S : SD) (w : World) (hS : SRC S w) : Calls Tryz.prog 27 #[.pointer (some ⟨S.b,0,none⟩)] w (LR S w):=by
  have HS:=zH hS
  have hlt:=hS.lt
  have Hend:=zH (fun (v : Value) (l : List ByteArray) (w2 : World) (hl : l.length ≤ 1000) (h : SS (we (lo w.heap.size) w2) v l) (hr : SR S w w2)=>t8n (lo w.heap.size) l w2 v ((t1g _).mono hr.size) h (by omega))
  clear hS
  go_enter Tryz.func27,Tryz.ntmps27
  go_upto_region 3 with (go_at_call 24;refine (t0z S 3 w HS.out (by omega)).mono ?_;rintro e w2 ⟨x,rfl,hs,h0,h1,-⟩;have h1:=h1 (by decide);have H2:=zH hs;clear hs;rcases (show x = 0 ∨ x = 1 ∨ x = 2 by omega) with rfl | rfl | rfl)
  · go_wp2_with (go_at_call 49;refine (Hend.out _ [] w2 (by simp) ⟨none,0,rfl,Rw.nil _ _ _ _ _⟩ H2.out).mono ?_;rintro e w9 ⟨v9,l9,rfl,hs9,hl9,hb9⟩;have Hs9:=zH hs9;have Hb9:=zH hb9;have Hl9:=zH hl9;clear hs9 hb9 hl9)
    go_ret
    exact ⟨_,l9,rfl,Hs9.out,Nat.le_trans Hl9.out (by simp),H2.out.step Hb9.out⟩
  · go_upto_region 5 with (first
      | (go_at_call 48;refine (t9h S w2 H2.out.src).mono ?_;rintro e w3 ⟨s,rfl,hs,-⟩;have H3:=zH (H2.out.trans hs);clear hs)
      | (at_builtin;go_loud (refine t0n rfl (.tmp 7) (.tmp 10) 26 rfl 9 (by kernel_rfl) t3h rfl (by decide) (by decide) w.heap.size _ w3.heap.size [.string s] (heap_alloc_new w3 _) (Nat.le_trans H3.out.size (by simp)) rfl (by intro u hu;simp at hu;subst hu;rfl) (.slice none 0 0) 0 [] rfl (World.ownsRow_nil _ _ _ _) (by omega) rfl ?_);intro v4 w4 ho4 hf4;have Hb4:=zH (hf4.below (Nat.le_trans H3.out.size (by simp)) (by simp) (fun g hg=>by simp [Value.ownBlock] at hg));have H4:=zH ((H3.out.trans (SR.alloc H3.out.src _)).app Hb4.out);rw [Nat.zero_add,List.nil_append] at ho4;obtain ⟨p4,c4,rfl⟩:=t0r ho4;have Ho4:=zH ho4;clear ho4 hf4)
      | (go_at_call 24;refine (t0z S 2 w4 H4.out.src (by omega)).mono ?_;rintro e w5 ⟨x,rfl,hs,h0,h1,-⟩;have h1:=h1 (by decide);have H5:=zH (H4.out.trans hs);have Ho5:=zH (hs.owns Ho4.out hlt);clear hs;rcases (show x = 0 ∨ x = 1 by omega) with rfl | rfl))
    · go_wp2_with (go_at_call 49;refine (Hend.out _ [s] w5 (by simp) (tgz (l:=[s]) Ho5.out (Nat.le_refl _) (by simp)) H5.out).mono ?_;rintro e w9 ⟨v9,l9,rfl,hs9,hl9,hb9⟩;have Hs9:=zH hs9;have Hb9:=zH hb9;have Hl9:=zH hl9;clear hs9 hb9 hl9)
      go_ret
      exact ⟨_,l9,rfl,Hs9.out,Nat.le_trans Hl9.out (by simp),H5.out.step Hb9.out⟩
    · go_upto_region 6 with (first
        | (go_at_call 48;refine (t9h S w5 H5.out.src).mono ?_;rintro e w6 ⟨s2,rfl,hs,-⟩;have H6:=zH (H5.out.trans hs);have Ho6:=zH (hs.owns Ho5.out hlt);clear hs)
        | (at_builtin;go_loud (refine t0n rfl (.tmp 15) (.tmp 18) 26 rfl 9 (by kernel_rfl) t3h rfl (by decide) (by decide) w.heap.size _ w6.heap.size [.string s2] (heap_alloc_new w6 _) (Nat.le_trans H6.out.size (by simp)) rfl (by intro u hu;simp at hu;subst hu;rfl) (.slice p4 1 c4) 1 [.string s] rfl (t0d Ho6.out ((Below.refl _ _).alloc (Nat.le_refl _) _) (Nat.le_refl _)) (by omega) rfl ?_);intro v7 w7 ho7 hf7;have Hb7:=zH (hf7.below (Nat.le_trans H6.out.size (by simp)) (by simp) (fun g hg=>(Ho6.out.lt g hg).1));have H7:=zH ((H6.out.trans (SR.alloc H6.out.src _)).app Hb7.out);obtain ⟨p7,c7,rfl⟩:=t0r ho7;have Ho7:=zH ho7;clear ho7 hf7))
      go_wp2_with (go_at_call 49;refine (Hend.out _ [s,s2] w7 (by simp) (tgz (l:=[s,s2]) Ho7.out (Nat.le_refl _) (by simp)) H7.out).mono ?_;rintro e w9 ⟨v9,l9,rfl,hs9,hl9,hb9⟩;have Hs9:=zH hs9;have Hb9:=zH hb9;have Hl9:=zH hl9;clear hs9 hb9 hl9)
      go_ret
      exact ⟨_,l9,rfl,Hs9.out,Nat.le_trans Hl9.out (by simp),H7.out.step Hb9.out⟩
  · go_wp2_with (go_at_call 49;refine (Hend.out _ [] w2 (by simp) ⟨none,0,rfl,Rw.nil _ _ _ _ _⟩ H2.out).mono ?_;rintro e w9 ⟨v9,l9,rfl,hs9,hl9,hb9⟩;have Hs9:=zH hs9;have Hb9:=zH hb9;have Hl9:=zH hl9;clear hs9 hb9 hl9)
    go_ret
    exact ⟨_,l9,rfl,Hs9.out,Nat.le_trans Hl9.out (by simp),H2.out.step Hb9.out⟩
def GV (Q : VV → Prop) (S : SD) (w : World) (e : Ending) (w' : World) : Prop:=∃ v V,e = .returned v ∧ VW (we (lo w.heap.size) w') v V ∧ Q V ∧ SR S w w'
def Leaf (V : VV) : Prop:=V.valid = true ∧ V.nodes ≤ 1 ∧ V.labels = []
theorem leaf1 (n : Int) : Leaf (.mk 1 n t0u [] [] [] []):=⟨by simp [VV.valid,nodeV,validVs,validEs,VV.kind,VV.num,VV.text,VV.kids,VV.keys,VV.ents,VV.labels,t2e,t1x,t2a,ascL,t0u,ByteArray.size],by simp [VV.nodes,nodesVs,nodesEs],rfl⟩
theorem leaf5 : Leaf (.mk 5 0 t0u [] [] [] []):=⟨by simp [VV.valid,nodeV,validVs,validEs,VV.kind,VV.num,VV.text,VV.kids,VV.keys,VV.ents,VV.labels,t2e,t1x,t2a,ascL,t0u,ByteArray.size],by simp [VV.nodes,nodesVs,nodesEs],rfl⟩
theorem leaf6 : Leaf (.mk 6 0 t0u [] [] [] []):=⟨by simp [VV.valid,nodeV,validVs,validEs,VV.kind,VV.num,VV.text,VV.kids,VV.keys,VV.ents,VV.labels,t2e,t1x,t2a,ascL,t0u,ByteArray.size],by simp [VV.nodes,nodesVs,nodesEs],rfl⟩
theorem leaf3 {s : ByteArray} (h : isAtm s.data.toList = true) : Leaf (.mk 3 0 s [] [] [] []):=⟨by simp [VV.valid,nodeV,validVs,validEs,VV.kind,VV.num,VV.text,VV.kids,VV.keys,VV.ents,VV.labels,t2e,t1x,t2a,ascL,h],by simp [VV.nodes,nodesVs,nodesEs],rfl⟩
theorem leaf2 {s : ByteArray} (h : s.size ≤ 64) : Leaf (.mk 2 0 s [] [] [] []):=⟨by simp [VV.valid,nodeV,validVs,validEs,VV.kind,VV.num,VV.text,VV.kids,VV.keys,VV.ents,VV.labels,t2e,t1x,t2a,ascL,h],by simp [VV.nodes,nodesVs,nodesEs],rfl⟩
theorem leaf4 {n : Int} (h : 0 ≤ n) : Leaf (.mk 4 n t0u [] [] [] []):=⟨by simp [VV.valid,nodeV,validVs,validEs,VV.kind,VV.num,VV.text,VV.kids,VV.keys,VV.ents,VV.labels,t2e,t1x,t2a,ascL,t0u,ByteArray.size,h],by simp [VV.nodes,nodesVs,nodesEs],rfl⟩
set_option maxHeartbeats 16000000 in
theorem t2y (S : SD) (w : World) (hS : SRC S w) : Calls Tryz.prog 41 #[.pointer (some ⟨S.b,0,none⟩)] w (GV Leaf S w):=by
  have Hb:=zH (show w.heap.size ≠ S.b by have:=hS.lt;omega)
  have Ha:=zH (SR.alloc hS (.cells #[.int .i64 0,.int .i64 0,.string ⟨#[]⟩,.slice none 0 0,.slice none 0 0,.slice none 0 0,.slice none 0 0] 28))
  have Hn:=zH (heap_alloc_new w (.cells #[.int .i64 0,.int .i64 0,.string ⟨#[]⟩,.slice none 0 0,.slice none 0 0,.slice none 0 0,.slice none 0 0] 28))
  clear hS
  go_enter Tryz.func41,Tryz.ntmps41
  go_upto_region 1 with fail
  generalize w.alloc (.cells #[.int .i64 0,.int .i64 0,.string ⟨#[]⟩,.slice none 0 0,.slice none 0 0,.slice none 0 0,.slice none 0 0] 28) = w1 at *
  go_upto_region 2 with (go_at_call 24;refine (t0z S 6 w1 Ha.out.src (by omega)).mono ?_;rintro e w2 ⟨x,rfl,hs,h0,h1,-⟩;have h1:=h1 (by decide);have H2:=zH (Ha.out.trans hs);have Z2:=zH ((hs.block (t0a Hn.out) Hb.out).trans Hn.out);clear hs;rcases (show x = 0 ∨ x = 1 ∨ x = 2 ∨ x = 3 ∨ x = 4 ∨ x = 5 by omega) with rfl | rfl | rfl | rfl | rfl | rfl)
  · go_wp2_with (first
      | (go_at_call 80;refine (tfr S w2 H2.out.src).mono ?_;rintro e w3 ⟨y,rfl,hs⟩;have H3:=zH (H2.out.trans hs);have Z3:=zH ((hs.block (t0a Z2.out) Hb.out).trans Z2.out);clear hs)
      | (go_at_call 21;refine (t7a y w3).mono ?_;rintro e w4 ⟨rfl,hb⟩;have H4:=zH (H3.out.step hb);have Z4:=zH ((hb.block _ (t0a Z3.out)).trans Z3.out);clear hb)
      | (with_reducible refine wpList_store_row rfl 28 (.tmp 2) (.tmp 9) rfl _ _ rfl rfl _ _ Z4.out (by kernel_rfl) (by kernel_rfl) (by kernel_rfl) ?_))
    refine bodyPost_ret (results_cell_row rfl _ _ w.heap.size 28 _ (0,0) _ rfl (setRow_heap _ _ _ _ _ _ Z4.out) rfl rfl (by kernel_rfl)) rfl ?_
    exact ⟨_,_,rfl,vw0 _ _ _ _,leaf1 y,H4.out.row (Nat.le_refl _) Hb.out _⟩
  · go_wp2_with (first
      | (go_at_call 71;refine (t5n S w2 H2.out.src).mono ?_;rintro e w3 ⟨s,rfl,hs,hp⟩;have H3:=zH (H2.out.trans hs);have Z3:=zH ((hs.block (t0a Z2.out) Hb.out).trans Z2.out);clear hs)
      | (go_at_call 22;refine (t6i s w3).mono ?_;rintro e w4 ⟨rfl,hb⟩;have H4:=zH (H3.out.step hb);have Z4:=zH ((hb.block _ (t0a Z3.out)).trans Z3.out);clear hb)
      | (with_reducible refine wpList_store_row rfl 28 (.tmp 2) (.tmp 14) rfl _ _ rfl rfl _ _ Z4.out (by kernel_rfl) (by kernel_rfl) (by kernel_rfl) ?_))
    refine bodyPost_ret (results_cell_row rfl _ _ w.heap.size 28 _ (0,0) _ rfl (setRow_heap _ _ _ _ _ _ Z4.out) rfl rfl (by kernel_rfl)) rfl ?_
    exact ⟨_,_,rfl,vw0 _ _ _ _,leaf3 hp,H4.out.row (Nat.le_refl _) Hb.out _⟩
  · go_wp2_with (first
      | (go_at_call 72;refine (t8m S w2 H2.out.src).mono ?_;rintro e w3 ⟨s,rfl,hs,hp⟩;have H3:=zH (H2.out.trans hs);have Z3:=zH ((hs.block (t0a Z2.out) Hb.out).trans Z2.out);clear hs)
      | (go_at_call 75;refine (t6v s w3).mono ?_;rintro e w4 ⟨rfl,hb⟩;have H4:=zH (H3.out.step hb);have Z4:=zH ((hb.block _ (t0a Z3.out)).trans Z3.out);clear hb)
      | (with_reducible refine wpList_store_row rfl 28 (.tmp 2) (.tmp 19) rfl _ _ rfl rfl _ _ Z4.out (by kernel_rfl) (by kernel_rfl) (by kernel_rfl) ?_))
    refine bodyPost_ret (results_cell_row rfl _ _ w.heap.size 28 _ (0,0) _ rfl (setRow_heap _ _ _ _ _ _ Z4.out) rfl rfl (by kernel_rfl)) rfl ?_
    exact ⟨_,_,rfl,vw0 _ _ _ _,leaf2 hp,H4.out.row (Nat.le_refl _) Hb.out _⟩
  · go_wp2_with (first
      | (go_at_call 24;refine (t0z S 3 w2 H2.out.src (by omega)).mono ?_;rintro e w3 ⟨y,rfl,hs,hp,-,-⟩;have H3:=zH (H2.out.trans hs);have Z3:=zH ((hs.block (t0a Z2.out) Hb.out).trans Z2.out);clear hs)
      | (go_at_call 76;refine (tc9 y w3).mono ?_;rintro e w4 ⟨rfl,hb⟩;have H4:=zH (H3.out.step hb);have Z4:=zH ((hb.block _ (t0a Z3.out)).trans Z3.out);clear hb)
      | (with_reducible refine wpList_store_row rfl 28 (.tmp 2) (.tmp 24) rfl _ _ rfl rfl _ _ Z4.out (by kernel_rfl) (by kernel_rfl) (by kernel_rfl) ?_))
    refine bodyPost_ret (results_cell_row rfl _ _ w.heap.size 28 _ (0,0) _ rfl (setRow_heap _ _ _ _ _ _ Z4.out) rfl rfl (by kernel_rfl)) rfl ?_
    exact ⟨_,_,rfl,vw0 _ _ _ _,leaf4 hp,H4.out.row (Nat.le_refl _) Hb.out _⟩
  · go_wp2_with (first
      | (go_at_call 43;refine (t3f w2).mono ?_;rintro e w4 ⟨rfl,hb⟩;have H4:=zH (H2.out.step hb);have Z4:=zH ((hb.block _ (t0a Z2.out)).trans Z2.out);clear hb)
      | (with_reducible refine wpList_store_row rfl 28 (.tmp 2) (.tmp 27) rfl _ _ rfl rfl _ _ Z4.out (by kernel_rfl) (by kernel_rfl) (by kernel_rfl) ?_))
    refine bodyPost_ret (results_cell_row rfl _ _ w.heap.size 28 _ (0,0) _ rfl (setRow_heap _ _ _ _ _ _ Z4.out) rfl rfl (by kernel_rfl)) rfl ?_
    exact ⟨_,_,rfl,vw0 _ _ _ _,leaf5,H4.out.row (Nat.le_refl _) Hb.out _⟩
  · go_wp2_with (first
      | (go_at_call 42;refine (ta6 (ex (lo w.heap.size) w.heap.size) [] w2 (.slice none 0 0) (t3e ((t1g _).mono H2.out.size) (t0a Z2.out)) ⟨0,none,0,rfl,Rw.nil _ _ _ _ _⟩ (by simp)).mono ?_;rintro e w4 ⟨v4,rfl,hv4,hb⟩;obtain ⟨d4,cs4,rfl,hv4⟩:=hv4;obtain ⟨q1,q2,q3,q4,q5,q6,q7,q8,rfl⟩:=hv4.seven;have Hv4:=zH hv4;have H4:=zH (H2.out.step hb);have Z4:=zH ((hb.block _ (t0a Z2.out)).trans Z2.out);clear hb hv4)
      | (with_reducible refine wpList_store_row rfl 28 (.tmp 2) (.tmp 28) rfl _ _ rfl rfl _ _ Z4.out (by kernel_rfl) (by kernel_rfl) (by kernel_rfl) ?_))
    refine bodyPost_ret (results_cell_row rfl _ _ w.heap.size 28 _ (0,0) _ rfl (setRow_heap _ _ _ _ _ _ Z4.out) rfl rfl (by kernel_rfl)) rfl ?_
    exact ⟨_,_,rfl,t7r ⟨d4,_,rfl,Hv4.out⟩ _,leaf6,H4.out.row (Nat.le_refl _) Hb.out _⟩
end Go.Proofs.YtjgldaaofdpcgaaGreat
namespace Go.Proofs.YtjgldaaofdpcgaaGreat
open Go.RowKit Go.Ident
set_option maxRecDepth 100000
def mkF (n : Int) (l : List EE) : VV × Int:=if 0 ≤ n ∧ n ≤ 4 ∧ l.all (entOk n) = true then (.mk 9 n t0u [] [] (entsE l) [],0) else (zeroV,1)
def VCR (E : Nat → Bool) (p : VV × Int) (w : World) (e : Ending) (w' : World) : Prop:=∃ v,e = .returned (.tuple #[v,.int .i64 p.2]) ∧ VW (we E w') v p.1 ∧ p.2 = p.2 ∧ Below w.heap.size w w'
theorem tj2 {w : World} {p : Option Addr} {c d : Nat} {l : List EE} (h : Rw w p c 9 l (ES w d)) (k n : Int) (s : ByteArray) : VW w (.agg #[.int .i64 k,.int .i64 n,.string s,.slice none 0 0,.slice none 0 0,.slice p l.length c,.slice none 0 0]) (.mk k n s [] [] l []) :=
  ⟨d + 1,_,rfl,none,0,none,0,p,c,none,0,rfl,Rw.nil _ _ _ _ _,Rw.nil _ _ _ _ _,h,Rw.nil _ _ _ _ _⟩
set_option maxHeartbeats 32000000 in
theorem t9i (E : Nat → Bool) (n : Int) (l : List EE) (w : World) (u : Value) (hE : Old E w.heap.size) (hu : EY (we E w) u l) (hl : l.length ≤ 1000) : Calls Tryz.prog 20 #[.int .i64 n,u] w (VCR E (mkF n l) w):=by
  have HE:=zH hE
  obtain ⟨d,p,c,rfl,hr⟩:=hu
  have HR:=zH hr
  clear hr hE
  go_enter Tryz.func20,Tryz.ntmps20
  go_upto_region 1 with fail
  have hC:=heap_alloc_new w (.cells #[.int .i64 0,.int .i64 0,.string ⟨#[]⟩,.slice none 0 0,.slice none 0 0,.slice none 0 0,.slice none 0 0] 28)
  have hb : Below w.heap.size w (w.alloc (.cells #[.int .i64 0,.int .i64 0,.string ⟨#[]⟩,.slice none 0 0,.slice none 0 0,.slice none 0 0,.slice none 0 0] 28)):=(Below.refl _ _).alloc (Nat.le_refl _) _
  generalize w.alloc (.cells #[.int .i64 0,.int .i64 0,.string ⟨#[]⟩,.slice none 0 0,.slice none 0 0,.slice none 0 0,.slice none 0 0] 28) = w1 at *
  have hlC:=t0a hC
  have HC:=zH hC;have Hb:=zH hb
  clear hC hb
  by_cases n0 : n < 0
  · have d0 : decide (n < 0) = true:=by simp [n0]
    have Hno:=zH (show mkF n l = (zeroV,1) by unfold mkF;rw [if_neg (by omega)])
    clear n0
    have hC:=((Below.refl w1.heap.size w1).block _ hlC).trans HC.out
    go_wp2_with (with_reducible refine wpList_store_row rfl 28 (.tmp 4) (.tmp 13) rfl _ _ rfl rfl _ _ hC (by kernel_rfl) (by kernel_rfl) (by kernel_rfl) ?_)
    refine bodyPost_ret (t1a rfl _ _ w.heap.size 28 _ (0,0) _ rfl (setRow_heap _ _ _ _ _ _ hC) rfl rfl (by kernel_rfl)) rfl ?_
    exact ⟨_,by rw [Hno.out];rfl,by rw [Hno.out];exact vw0 _ _ _ _,rfl,t1c (Hb.out.step (Below.refl w1.heap.size w1)) (Nat.le_refl _)⟩
  have d0 : decide (n < 0) = false:=by simp;omega
  by_cases n4 : 4 < n
  · have d1 : decide (4 < n) = true:=by simp [n4]
    have Hno:=zH (show mkF n l = (zeroV,1) by unfold mkF;rw [if_neg (by omega)])
    clear n0 n4
    have hC:=((Below.refl w1.heap.size w1).block _ hlC).trans HC.out
    go_wp2_with (with_reducible refine wpList_store_row rfl 28 (.tmp 4) (.tmp 13) rfl _ _ rfl rfl _ _ hC (by kernel_rfl) (by kernel_rfl) (by kernel_rfl) ?_)
    refine bodyPost_ret (t1a rfl _ _ w.heap.size 28 _ (0,0) _ rfl (setRow_heap _ _ _ _ _ _ hC) rfl rfl (by kernel_rfl)) rfl ?_
    exact ⟨_,by rw [Hno.out];rfl,by rw [Hno.out];exact vw0 _ _ _ _,rfl,t1c (Hb.out.step (Below.refl w1.heap.size w1)) (Nat.le_refl _)⟩
  have d1 : decide (4 < n) = false:=by simp;omega
  have Hmk:=zH (show l.all (entOk n) = true → mkF n l = (.mk 9 n t0u [] [] (entsE l) [],0) from fun h=>by unfold mkF;rw [if_pos ⟨by omega,by omega,h⟩])
  have Hmn:=zH (show l.all (entOk n) = false → mkF n l = (zeroV,1) from fun h=>by unfold mkF;rw [if_neg (fun g=>by rw [h] at g;simp at g)])
  clear n0 n4
  go_wp2
  clear d0 d1
  go_loopw [6] (fun i wr=>∃ k : Nat,i = .int .i64 k ∧ k ≤ l.length ∧ (∀ j (h : j < l.length),j < k → entOk n l[j] = true) ∧ Below w1.heap.size w1 wr) (fun i _=>l.length - (intOf i).toNat)
  case atStart=>exact ⟨0,rfl,by omega,fun j _ h=>by omega,Below.refl _ _⟩
  case round =>
    obtain ⟨k,rfl,hk,hall,hbr⟩:=hrel
    have Hall:=zH hall;have Hbr:=zH hbr;have Hbw:=zH (Hb.out.step hbr)
    clear hall hbr
    by_cases hlt : k < l.length
    · have d9 : decide (k < l.length) = true:=by simp;omega
      obtain ⟨a,o,cs,rfl,-,-,hrg,hX⟩:=HR.out.at hlt
      obtain ⟨x9,xa,x1,x2,x3,x4,x5,x6,x7,x8,rfl⟩:=hX.nine
      have HX:=zH ((hX.sub (t3q E w)).below Hbw.out)
      have z0:=t0b Hbw.out (t1j (hrg 0 _ rfl)).2
      have z1:=t0b Hbw.out (t1j (hrg 1 _ rfl)).2
      have z2:=t0b Hbw.out (t1j (hrg 2 _ rfl)).2
      have z3:=t0b Hbw.out (t1j (hrg 3 _ rfl)).2
      have z4:=t0b Hbw.out (t1j (hrg 4 _ rfl)).2
      have z5:=t0b Hbw.out (t1j (hrg 5 _ rfl)).2
      have z6:=t0b Hbw.out (t1j (hrg 6 _ rfl)).2
      have z7:=t0b Hbw.out (t1j (hrg 7 _ rfl)).2
      have z8:=t0b Hbw.out (t1j (hrg 8 _ rfl)).2
      rw [Nat.add_zero] at z0
      have Hno1:=zH (show entOk n l[k] = false → mkF n l = (zeroV,1) from fun h=>Hmn.out (t4d hlt h))
      have Hnx:=zH (show entOk n l[k] = true → ∀ j (h : j < l.length),j < k + 1 → entOk n l[j] = true from fun g j h hj=>by
        rcases Nat.lt_succ_iff_lt_or_eq.1 hj with g2 | rfl
        · exact Hall.out j h g2
        · exact g)
      have hbig : l[k].args.length ≤ 9223372036854775807:=by obtain ⟨_,_,_,_,h,_⟩:=hX;exact h.big
      clear hrg hX
      generalize l[k] = x at *
      by_cases hn : (x.args.length : Int) = n
      rotate_left
      · have d2 : ((x.args.length : Int) != n) = true:=by simp [hn]
        have Hno:=zH (Hno1.out (by unfold entOk;rw [decide_eq_false hn];rfl))
        clear hn
        have hC:=((Hbr.out).block _ hlC).trans HC.out
        go_wp2_with (with_reducible refine wpList_store_row rfl 28 (.tmp 4) (.tmp 45) rfl _ _ rfl rfl _ _ hC (by kernel_rfl) (by kernel_rfl) (by kernel_rfl) ?_)
        refine bodyPost_ret (t1a rfl _ _ w.heap.size 28 _ (0,0) _ rfl (setRow_heap _ _ _ _ _ _ hC) rfl rfl (by kernel_rfl)) rfl ?_
        exact ⟨_,by rw [Hno.out];rfl,by rw [Hno.out];exact vw0 _ _ _ _,rfl,t1c (Hb.out.step (Hbr.out)) (Nat.le_refl _)⟩
      have d2 : ((x.args.length : Int) != n) = false:=by simp [hn]
      have Hen:=zH (show entOk n x = (!x.fails || decide (cmpV x.res zeroV = 0)) by unfold entOk;rw [decide_eq_true hn];rfl)
      clear hn
      cases hf : x.fails with
      | false =>
        rw [hf] at z1
        have Hnx2:=zH (Hnx.out (by rw [Hen.out,hf];rfl))
        clear hf
        go_wp2
        exact ⟨⟨k + 1,by go_num,by omega,Hnx2.out,Hbr.out⟩,by simp [intOf];omega⟩
      | true =>
        rw [hf] at z1
        have hres : VS wr d x.res [.int .i64 x.res.kind,.int .i64 x.res.num,.string x.res.text,.slice x1 x.res.kids.length x2,.slice x3 x.res.keys.length x4,.slice x5 x.res.ents.length x6,.slice x7 x.res.labels.length x8]:=by
          obtain ⟨_,_,_,e7,_,h7⟩:=HX.out
          simp at e7
          obtain ⟨-,rfl⟩:=e7
          exact h7
        have Heq:=zH (t8k x.res zeroV wr _ (.agg #[.int .i64 0,.int .i64 0,.string ⟨#[]⟩,.slice none 0 0,.slice none 0 0,.slice none 0 0,.slice none 0 0]) ⟨_,_,rfl,hres⟩ ⟨1,_,rfl,t4c _⟩)
        clear hres
        cases hz : decide (cmpV x.res zeroV = 0) with
        | false =>
          have Hno:=zH (Hno1.out (by rw [Hen.out,hf,hz];rfl))
          rw [hz] at Heq
          clear hz hf
          go_upto_region 7 with (go_at_call 38;refine Heq.out.mono ?_;rintro e w6 ⟨rfl,hb6⟩;have Hb6:=zH (Hbr.out.step hb6);clear hb6)
          have hC:=((Hb6.out).block _ hlC).trans HC.out
          go_wp2_with (with_reducible refine wpList_store_row rfl 28 (.tmp 4) (.tmp 45) rfl _ _ rfl rfl _ _ hC (by kernel_rfl) (by kernel_rfl) (by kernel_rfl) ?_)
          refine bodyPost_ret (t1a rfl _ _ w.heap.size 28 _ (0,0) _ rfl (setRow_heap _ _ _ _ _ _ hC) rfl rfl (by kernel_rfl)) rfl ?_
          exact ⟨_,by rw [Hno.out];rfl,by rw [Hno.out];exact vw0 _ _ _ _,rfl,t1c (Hb.out.step (Hb6.out)) (Nat.le_refl _)⟩
        | true =>
          have Hnx2:=zH (Hnx.out (by rw [Hen.out,hf,hz];rfl))
          rw [hz] at Heq
          clear hz hf
          go_wp2_with (go_at_call 38;refine Heq.out.mono ?_;rintro e w6 ⟨rfl,hb6⟩;have Hb6:=zH (Hbr.out.step hb6);clear hb6)
          exact ⟨⟨k + 1,by go_num,by omega,Hnx2.out,Hb6.out⟩,by simp [intOf];omega⟩
    · have d9 : decide (k < l.length) = false:=by simp;omega
      have Hy:=zH (Hmk.out (by rw [List.all_eq_true];intro e he;obtain ⟨j,hj,rfl⟩:=List.mem_iff_getElem.1 he;exact Hall.out j hj (by omega)))
      have Hc:=zH (tel (ex E w.heap.size) l wr (.slice p l.length c) (t3e (HE.out.mono Hbw.out.size) (Nat.lt_of_lt_of_le hlC Hbr.out.size)) ⟨d,p,c,rfl,(HR.out.below (t4q Hbw.out (Nat.le_refl _)) fun _ _ _ h=>h.below (t4q Hbw.out (Nat.le_refl _)))⟩ hl)
      have hC:=(Hbr.out.block _ hlC).trans HC.out
      have HC2:=zH hC
      clear hC
      go_wp2_with (first
        | (go_at_call 35;refine Hc.out.mono ?_;rintro e w6 ⟨v6,rfl,hv6,hb6⟩;obtain ⟨d6,p6,c6,rfl,hr6⟩:=hv6;have Hr6:=zH hr6;have Hb6:=zH hb6;have Z6:=zH ((hb6.block _ (t0a HC2.out)).trans HC2.out);clear hb6 hr6)
        | (with_reducible refine wpList_store_row rfl 28 (.tmp 4) (.tmp 49) rfl _ _ rfl rfl _ _ Z6.out (by kernel_rfl) (by kernel_rfl) (by kernel_rfl) ?_))
      refine bodyPost_ret (t1a rfl _ _ w.heap.size 28 _ (0,0) _ rfl (setRow_heap _ _ _ _ _ _ Z6.out) rfl rfl (by kernel_rfl)) rfl ?_
      refine ⟨_,by rw [Hy.out];rfl,?_,rfl,t1c (Hbw.out.step Hb6.out) (Nat.le_refl _)⟩
      rw [Hy.out]
      exact t7r (tj2 Hr6.out _ _ _) _
end Go.Proofs.YtjgldaaofdpcgaaGreat
