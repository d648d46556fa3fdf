/- Walks and plain facts for the laws of membership, for all values and types that the heap holds (texts Z2 Z3). -/
import Derived.Test.YtjgldaaofdpcgaaGreatW03
import Derived.Test.YtjgldaaofdpcgaaGreatW18
import Derived.Test.YtjgldaaofdpcgaaGreatW19
set_option linter.unusedVariables false
set_option linter.unusedSimpArgs false
namespace Go.Proofs.YtjgldaaofdpcgaaGreat
open Go.RowKit
set_option maxRecDepth 100000
theorem SC.one {s : ByteArray} {cs : List Value} (h : SC s cs) : ∀ u ∈ cs,u.oneCell' = true:=by unfold SC at h;subst h;intro u hu;simp at hu;subst hu;rfl
theorem t3h : (Tryz.prog.info? 9).map (fun i=>(i.zero,i.size,i.bytes)) = some (some (.string ⟨#[]⟩),1,16):=by kernel_rfl
set_option maxHeartbeats 32000000 in
theorem t8n (E : Nat → Bool) (l : List ByteArray) (w : World) (v : Value) (hE : Old E w.heap.size) (h : SS (we E w) v l) (hl : l.length ≤ 100000) : Calls Tryz.prog 49 #[v] w fun e w'=>∃ v' l',e = .returned v' ∧ SS (we E w') v' l' ∧ l'.length ≤ l.length ∧ Below w.heap.size w w':=by
  have Hbw:=zH hE
  obtain ⟨p,c,rfl,hr⟩:=h
  have HR:=zH hr
  clear hr hE
  go_enter Tryz.func49,Tryz.ntmps49
  go_wp2
  go_loopw [3,4] (fun v i wr=>∃ (j : Nat) (O : List ByteArray) (xs : List Value),j ≤ l.length ∧ i = .int .i64 j ∧ O.length ≤ j ∧ wr.ownsRow w.heap.size 9 1 v O.length xs ∧ Ch 1 SC O xs ∧ Below w.heap.size w wr) (fun _ i _=>l.length - (intOf i).toNat)
  case atStart=>exact ⟨0,[],[],by omega,rfl,by simp,World.ownsRow_nil _ _ _ _,Ch.nil,Below.refl _ _⟩
  case round =>
    obtain ⟨j,O,xs,hj,rfl,hO,ho,hc,hbr⟩:=hrel
    have Ho:=zH ho;have Hc:=zH hc;have Hbr:=zH hbr;have HO:=zH hO
    have hol : O.length ≤ 100000:=by omega
    clear ho hc hbr hO
    by_cases hlt : j < l.length
    · have d9 : decide (j < l.length) = true:=by simp;omega
      obtain ⟨a,o,cs,rfl,hab,-,hrg,hX⟩:=HR.out.at hlt
      have hab : a < w.heap.size:=by rwa [t0j] at hab
      have Hax:=zH hab
      unfold SC at hX
      subst hX
      have c0:=(t1j (hrg 0 _ rfl)).2
      simp only [Nat.mul_one,Nat.add_zero] at c0
      have Hlast:=zH hlt
      clear hrg
      generalize l[j] = x at *
      obtain ⟨q,cap1,rfl⟩:=t0r Ho.out
      have hcap1 : O.length ≤ cap1:=t5f Ho.out
      go_wp2
      go_loopw [5] (fun i wi=>∃ k : Nat,k ≤ O.length ∧ i = .int .i64 k ∧ wi.ownsRow w.heap.size 9 1 (.slice q O.length cap1) O.length xs ∧ Below w.heap.size w wi) (fun i _=>O.length - (intOf i).toNat)
      case atStart=>exact ⟨0,by omega,rfl,Ho.out,Hbr.out⟩
      case round =>
        obtain ⟨k,hk,rfl,ho2,hb2⟩:=hrel
        have Ho2:=zH ho2;have Hb2:=zH hb2
        clear ho2 hb2
        have z0:=t0b Hb2.out c0
        by_cases hkl : k < O.length
        · have d8 : decide (k < O.length) = true:=by simp;omega
          obtain ⟨q',cap',eq',hrw⟩:=t1o Ho2.out Hc.out (by omega)
          injection eq' with eq1 _ eq3
          subst eq1 eq3
          obtain ⟨g,og,cs',rfl,hg,-,hrg',hY⟩:=hrw.at hkl
          unfold SC at hY
          subst hY
          have v0:=hrg' 0 _ rfl
          simp only [Nat.mul_one,Nat.add_zero] at v0
          clear hrw hrg'
          generalize O[k] = y at *
          cases hb1 : Op.bytesLess y.toList x.toList with
          | true =>
            go_wp2_with (first
              | (with_reducible refine rg ?_)
              | (with_reducible refine fo ?_))
            exact ⟨⟨k + 1,by omega,by go_num,t0d Ho2.out (Below.refl _ _).drew (Nat.le_refl _),Hb2.out.drew⟩,by simp [intOf];omega⟩
          | false =>
            cases hb2 : (y.toList == x.toList) with
            | true =>
              go_wp2_with (first
                | (with_reducible refine rg ?_)
                | (with_reducible refine fo ?_))
              exact ⟨⟨j + 1,O,xs,by omega,by go_num,by have:=HO.out;omega,t0d Ho2.out (Below.refl _ _).drew.drew (Nat.le_refl _),Hc.out,Hb2.out.drew.drew⟩,by simp [intOf];omega⟩
            | false =>
              go_upto_region 9 with (first
                | (with_reducible refine rg ?_)
                | (with_reducible refine fo ?_))
              have Hod:=zH (t0d Ho2.out (Below.refl _ _).drew.drew (Nat.le_refl _))
              have Hbd:=zH Hb2.out.drew.drew
              clear z0 v0 Ho2 Hb2 hb1 hb2
              generalize wr.drew.drew = wd at *
              have Hrc:=zH (RC.of_own Hod.out)
              have Hone:=zH (Hc.out.cells fun _ _ h=>h.one)
              have HcT:=zH (Hc.out.take (k:=k) hk)
              have HcD:=zH (Hc.out.drop (k:=k) hk)
              have HoT:=zH (fun u hu=>Hone.out u (List.mem_of_mem_take (i:=k * 1) hu))
              have HoD:=zH (fun u hu=>Hone.out u (List.mem_of_mem_drop (i:=k * 1) hu))
              have Hlx:=zH (show xs.length = O.length * 1 from Hod.out.1)
              have Hsd:=zH Hbd.out.size
              have HrD:=zH (show RC wd 1 (some ⟨g,og + k,none⟩) (O.length - k) (xs.drop (k * 1)) from by have:=Hrc.out.drop hk;simpa using this)
              have Q0:=zH (t0b Hbd.out c0)
              clear c0 d8
              go_wp2_with (first
                | ((with_reducible refine Lex.t0w ?_);refine fE (by repeat first | exact LexK.t0t | refine LexK.t0o rfl ?_ | refine LexK.t0p (by decide +kernel) ?_ | refine LexK.t0c rfl Hax.out Hn0.out ?_) ?_)
                | ((with_reducible refine Lex.t0q ?_);refine LexK.t0h (fun b=>b < w.heap.size) (by kernel_rfl) (by decide +kernel) ?_;have n0 : w3.drew.cell? ⟨a,o + j,none⟩ = _:=(Hb3.out.cell (p:=⟨a,_,none⟩) (Nat.lt_of_lt_of_le Hax.out Hsd.out)).trans Q0.out;have Hn0:=zH n0)
                | (with_reducible first | refine qH ?_ | refine LexK.t0s ?_ | refine LexK.t0v ?_)
                | ((with_reducible refine Lex.t1b ?_);first
                    | with_reducible refine LexK.t0e hex5.out ?_
                    | refine LexK.t0e hex4.out ?_
                    | refine LexK.t0e (LexK.Ext.alloc _ _) ?_)
                | (at_builtin;first
                    | (refine t0x rfl (.const (.slice none 0 0)) (.tmp 47) 26 rfl 9 (by kernel_rfl) t3h rfl (by decide) (by decide) wd.heap.size wd (some ⟨g,og,none⟩) 0 k _ [] (xs.take (k * 1)) (Nat.le_refl _) (.slice none 0 0) rfl rfl (World.ownsRow_nil _ _ _ _) (Hrc.out.take hk) HoT.out (by omega) ?_;intro v3 w3 ho3 hf3;have Hb3:=zH (hf3.below (Nat.le_refl _) (by simp) (fun g hg=>by simp [Value.ownBlock] at hg));rw [Nat.zero_add,List.nil_append] at ho3;obtain ⟨p3,cap3,rfl⟩:=t0r ho3;have Ho3:=zH ho3;clear ho3 hf3)
                    | (refine t0n rfl (.tmp 49) (.tmp 54) 26 rfl 9 (by kernel_rfl) t3h rfl (by decide) (by decide) wd.heap.size _ w3.drew.heap.size [.string x] (heap_alloc_new w3.drew _) (Nat.le_trans Hb3.out.size (by simp)) rfl (by intro u hu;simp at hu;subst hu;rfl) (.slice p3 k cap3) k (xs.take (k * 1)) rfl (t0d Ho3.out ((Below.refl _ _).drew.alloc (Nat.le_refl _) _) (Nat.le_refl _)) (by omega) rfl ?_;intro v4 w4 ho4 hf4;have Hb4:=zH ((Hb3.out.drew.alloc Hb3.out.size _).trans (hf4.below (Nat.le_trans Hb3.out.size (by simp)) (by simp) fun g hg=>(Ho3.out.lt g hg).1));have hex4:=zH (show LexK.Ext (fun b=>b < w.heap.size) (w3.drew.alloc (.cells #[.string x] 9)) w4 from t2j (hf4.below (Nat.le_trans Hsd.out (Nat.le_trans Hb3.out.size (by simp))) (by simp) fun g hg=>Nat.le_trans Hsd.out (Ho3.out.lt g hg).1));obtain ⟨p4,cap4,rfl⟩:=t0r ho4;have Ho4:=zH ho4;clear ho4 hf4)
                    | (refine t0x rfl (.tmp 55) (.tmp 58) 26 rfl 9 (by kernel_rfl) t3h rfl (by decide) (by decide) wd.heap.size w4 (some ⟨g,og + k,none⟩) (k + 1) (O.length - k) _ (xs.take (k * 1) ++ [.string x]) (xs.drop (k * 1)) Hb4.out.size (.slice p4 (k + 1) cap4) rfl rfl Ho4.out (HrD.out.below Hb4.out) HoD.out (by omega) ?_;intro v5 w5 ho5 hf5;have Hb5:=zH (Hb4.out.trans (hf5.below Hb4.out.size (by simp) fun g hg=>(Ho4.out.lt g hg).1));have hex5:=zH (show LexK.Ext (fun b=>b < w.heap.size) w4 w5 from t2j (hf5.below (Nat.le_trans Hsd.out Hb4.out.size) (by simp) fun g hg=>Nat.le_trans Hsd.out (Ho4.out.lt g hg).1));have Ho5:=zH ho5;clear ho5 hf5)))
              have hlen : (O.take k ++ [x] ++ O.drop k).length = k + 1 + (O.length - k):=by rw [List.length_append,List.length_append,List.length_take,List.length_drop,List.length_singleton];omega
              refine ⟨⟨j + 1,O.take k ++ [x] ++ O.drop k,xs.take (k * 1) ++ [.string x] ++ (xs.drop (k * 1)),by omega,by go_num,by rw [hlen];have:=HO.out;omega,by rw [hlen];exact t2c Ho5.out Hsd.out,?_,Hbd.out.trans (Hb5.out.mono Hsd.out)⟩,by simp [intOf];omega⟩
              exact (HcT.out.append (Ch.single rfl (by unfold SC;rfl))).append HcD.out
        · obtain rfl : k = O.length:=by omega
          have d8 : decide (O.length < O.length) = false:=by simp
          go_upto_region 9 with (first
            | (with_reducible refine rg ?_)
            | (with_reducible refine fo ?_))
          have Hod:=zH (t0d Ho2.out (Below.refl _ _).drew.drew (Nat.le_refl _))
          have Hbd:=zH Hb2.out.drew.drew
          clear z0 Ho2 Hb2
          generalize wr.drew.drew = wd at *
          have Hrc:=zH (RC.of_own Hod.out)
          have Hone:=zH (Hc.out.cells fun _ _ h=>h.one)
          have HcT:=zH (Hc.out.take (k:=O.length) (Nat.le_refl _))
          have HcD:=zH (Hc.out.drop (k:=O.length) (Nat.le_refl _))
          have HoT:=zH (fun u hu=>Hone.out u (List.mem_of_mem_take (i:=O.length * 1) hu))
          have HoD:=zH (fun u hu=>Hone.out u (List.mem_of_mem_drop (i:=O.length * 1) hu))
          have Hlx:=zH (show xs.length = O.length * 1 from Hod.out.1)
          have Hsd:=zH Hbd.out.size
          have Q0:=zH (t0b Hbd.out c0)
          clear c0 d8
          go_wp2_with (first
            | ((with_reducible refine Lex.t0w ?_);refine fE (by repeat first | exact LexK.t0t | refine LexK.t0o rfl ?_ | refine LexK.t0p (by decide +kernel) ?_ | refine LexK.t0c rfl Hax.out Hn0.out ?_) ?_)
            | ((with_reducible refine Lex.t0q ?_);refine LexK.t0h (fun b=>b < w.heap.size) (by kernel_rfl) (by decide +kernel) ?_;have n0 : w3.drew.cell? ⟨a,o + j,none⟩ = _:=(Hb3.out.cell (p:=⟨a,_,none⟩) (Nat.lt_of_lt_of_le Hax.out Hsd.out)).trans Q0.out;have Hn0:=zH n0)
            | (with_reducible first | refine qH ?_ | refine LexK.t0s ?_ | refine LexK.t0v ?_)
            | ((with_reducible refine Lex.t1b ?_);first
                | with_reducible refine LexK.t0e hex5.out ?_
                | refine LexK.t0e hex4.out ?_
                | refine LexK.t0e (LexK.Ext.alloc _ _) ?_)
            | (at_builtin;first
                | (refine t0x rfl (.const (.slice none 0 0)) (.tmp 47) 26 rfl 9 (by kernel_rfl) t3h rfl (by decide) (by decide) wd.heap.size wd q 0 O.length _ [] (xs.take (O.length * 1)) (Nat.le_refl _) (.slice none 0 0) rfl rfl (World.ownsRow_nil _ _ _ _) (Hrc.out.take (Nat.le_refl _)) HoT.out (by omega) ?_;intro v3 w3 ho3 hf3;have Hb3:=zH (hf3.below (Nat.le_refl _) (by simp) (fun g hg=>by simp [Value.ownBlock] at hg));rw [Nat.zero_add,List.nil_append] at ho3;obtain ⟨p3,cap3,rfl⟩:=t0r ho3;have Ho3:=zH ho3;clear ho3 hf3)
                | (refine t0n rfl (.tmp 49) (.tmp 54) 26 rfl 9 (by kernel_rfl) t3h rfl (by decide) (by decide) wd.heap.size _ w3.drew.heap.size [.string x] (heap_alloc_new w3.drew _) (Nat.le_trans Hb3.out.size (by simp)) rfl (by intro u hu;simp at hu;subst hu;rfl) (.slice p3 O.length cap3) O.length (xs.take (O.length * 1)) rfl (t0d Ho3.out ((Below.refl _ _).drew.alloc (Nat.le_refl _) _) (Nat.le_refl _)) (by omega) rfl ?_;intro v4 w4 ho4 hf4;have Hb4:=zH ((Hb3.out.drew.alloc Hb3.out.size _).trans (hf4.below (Nat.le_trans Hb3.out.size (by simp)) (by simp) fun g hg=>(Ho3.out.lt g hg).1));have hex4:=zH (show LexK.Ext (fun b=>b < w.heap.size) (w3.drew.alloc (.cells #[.string x] 9)) w4 from t2j (hf4.below (Nat.le_trans Hsd.out (Nat.le_trans Hb3.out.size (by simp))) (by simp) fun g hg=>Nat.le_trans Hsd.out (Ho3.out.lt g hg).1));obtain ⟨p4,cap4,rfl⟩:=t0r ho4;have Ho4:=zH ho4;clear ho4 hf4)
                | (refine t0x rfl (.tmp 55) (.tmp 58) 26 rfl 9 (by kernel_rfl) t3h rfl (by decide) (by decide) wd.heap.size w4 _ (O.length + 1) 0 _ (xs.take (O.length * 1) ++ [.string x]) [] Hb4.out.size (.slice p4 (O.length + 1) cap4) rfl rfl Ho4.out (RC.nil _ _ _) (by simp) (by omega) ?_;intro v5 w5 ho5 hf5;have Hb5:=zH (Hb4.out.trans (hf5.below Hb4.out.size (by simp) fun g hg=>(Ho4.out.lt g hg).1));have hex5:=zH (show LexK.Ext (fun b=>b < w.heap.size) w4 w5 from t2j (hf5.below (Nat.le_trans Hsd.out Hb4.out.size) (by simp) fun g hg=>Nat.le_trans Hsd.out (Ho4.out.lt g hg).1));have Ho5:=zH ho5;clear ho5 hf5)))
          have hlen : (O.take O.length ++ [x] ++ O.drop O.length).length = O.length + 1 + 0:=by rw [List.length_append,List.length_append,List.length_take,List.length_drop,List.length_singleton];omega
          refine ⟨⟨j + 1,O.take O.length ++ [x] ++ O.drop O.length,xs.take (O.length * 1) ++ [.string x] ++ [],by omega,by go_num,by rw [hlen];have:=HO.out;omega,by rw [hlen];exact t2c Ho5.out Hsd.out,?_,Hbd.out.trans (Hb5.out.mono Hsd.out)⟩,by simp [intOf];omega⟩
          have hz:=HcD.out
          have ez : xs.drop (O.length * 1) = []:=List.drop_eq_nil_of_le (by rw [Hlx.out];exact Nat.le_refl _)
          rw [ez] at hz
          exact (HcT.out.append (Ch.single rfl (by unfold SC;rfl))).append hz
    · obtain rfl : j = l.length:=by omega
      have d9 : decide (l.length < l.length) = false:=by simp
      skip
      go_wp2
      go_ret
      obtain ⟨pz,cz,e7,hrw⟩:=t1o (t1q Ho.out Hbw.out) Hc.out (by omega)
      exact ⟨_,O,rfl,⟨pz,cz,e7,hrw⟩,(by have:=HO.out;omega),Hbr.out⟩
end Go.Proofs.YtjgldaaofdpcgaaGreat
namespace Go.Proofs.YtjgldaaofdpcgaaGreat
open Go.RowKit Go.Ident
set_option maxRecDepth 100000
theorem vw0 (w : World) (k n : Int) (s : ByteArray) : VW w (.agg #[.int .i64 k,.int .i64 n,.string s,.slice none 0 0,.slice none 0 0,.slice none 0 0,.slice none 0 0]) (.mk k n s [] [] [] []) :=
  ⟨1,_,rfl,none,0,none,0,none,0,none,0,rfl,Rw.nil _ _ _ _ _,Rw.nil _ _ _ _ _,Rw.nil _ _ _ _ _,Rw.nil _ _ _ _ _⟩
set_option maxHeartbeats 16000000 in
theorem t7a (n : Int) (w : World) : Calls Tryz.prog 21 #[.int .i64 n] w fun e w'=>e = .returned (.agg #[.int .i64 1,.int .i64 n,.string ⟨#[]⟩,.slice none 0 0,.slice none 0 0,.slice none 0 0,.slice none 0 0]) ∧ Below w.heap.size w w':=by
  go_enter Tryz.func21,Tryz.ntmps21
  go_upto_region 1 with fail
  have hn:=heap_alloc_new w (.cells #[.int .i64 0,.int .i64 0,.string ⟨#[]⟩,.slice none 0 0,.slice none 0 0,.slice none 0 0,.slice none 0 0] 28)
  have hb : Below w.heap.size w (w.alloc (.cells #[.int .i64 0,.int .i64 0,.string ⟨#[]⟩,.slice none 0 0,.slice none 0 0,.slice none 0 0,.slice none 0 0] 28)):=(Below.refl _ _).alloc (Nat.le_refl _) _
  generalize w.alloc (.cells #[.int .i64 0,.int .i64 0,.string ⟨#[]⟩,.slice none 0 0,.slice none 0 0,.slice none 0 0,.slice none 0 0] 28) = w1 at *
  go_wp2_with (with_reducible refine wpList_store_row rfl 28 (.tmp 2) (.tmp 4) rfl _ _ rfl rfl _ _ hn (by kernel_rfl) (by kernel_rfl) (by kernel_rfl) ?_)
  refine bodyPost_ret (results_cell_row rfl _ _ w.heap.size 28 _ (0,0) _ rfl (setRow_heap _ _ _ _ _ _ hn) rfl rfl (by kernel_rfl)) rfl ?_
  exact ⟨rfl,t1c hb (Nat.le_refl _)⟩
set_option maxHeartbeats 16000000 in
theorem t6i (s : ByteArray) (w : World) : Calls Tryz.prog 22 #[.string s] w fun e w'=>e = .returned (.agg #[.int .i64 3,.int .i64 0,.string s,.slice none 0 0,.slice none 0 0,.slice none 0 0,.slice none 0 0]) ∧ Below w.heap.size w w':=by
  go_enter Tryz.func22,Tryz.ntmps22
  go_upto_region 1 with fail
  have hn:=heap_alloc_new w (.cells #[.int .i64 0,.int .i64 0,.string ⟨#[]⟩,.slice none 0 0,.slice none 0 0,.slice none 0 0,.slice none 0 0] 28)
  have hb : Below w.heap.size w (w.alloc (.cells #[.int .i64 0,.int .i64 0,.string ⟨#[]⟩,.slice none 0 0,.slice none 0 0,.slice none 0 0,.slice none 0 0] 28)):=(Below.refl _ _).alloc (Nat.le_refl _) _
  generalize w.alloc (.cells #[.int .i64 0,.int .i64 0,.string ⟨#[]⟩,.slice none 0 0,.slice none 0 0,.slice none 0 0,.slice none 0 0] 28) = w1 at *
  go_wp2_with (with_reducible refine wpList_store_row rfl 28 (.tmp 2) (.tmp 4) rfl _ _ rfl rfl _ _ hn (by kernel_rfl) (by kernel_rfl) (by kernel_rfl) ?_)
  refine bodyPost_ret (results_cell_row rfl _ _ w.heap.size 28 _ (0,0) _ rfl (setRow_heap _ _ _ _ _ _ hn) rfl rfl (by kernel_rfl)) rfl ?_
  exact ⟨rfl,t1c hb (Nat.le_refl _)⟩
set_option maxHeartbeats 16000000 in
theorem t6v (s : ByteArray) (w : World) : Calls Tryz.prog 75 #[.string s] w fun e w'=>e = .returned (.agg #[.int .i64 2,.int .i64 0,.string s,.slice none 0 0,.slice none 0 0,.slice none 0 0,.slice none 0 0]) ∧ Below w.heap.size w w':=by
  go_enter Tryz.func75,Tryz.ntmps75
  go_upto_region 1 with fail
  have hn:=heap_alloc_new w (.cells #[.int .i64 0,.int .i64 0,.string ⟨#[]⟩,.slice none 0 0,.slice none 0 0,.slice none 0 0,.slice none 0 0] 28)
  have hb : Below w.heap.size w (w.alloc (.cells #[.int .i64 0,.int .i64 0,.string ⟨#[]⟩,.slice none 0 0,.slice none 0 0,.slice none 0 0,.slice none 0 0] 28)):=(Below.refl _ _).alloc (Nat.le_refl _) _
  generalize w.alloc (.cells #[.int .i64 0,.int .i64 0,.string ⟨#[]⟩,.slice none 0 0,.slice none 0 0,.slice none 0 0,.slice none 0 0] 28) = w1 at *
  go_wp2_with (with_reducible refine wpList_store_row rfl 28 (.tmp 2) (.tmp 4) rfl _ _ rfl rfl _ _ hn (by kernel_rfl) (by kernel_rfl) (by kernel_rfl) ?_)
  refine bodyPost_ret (results_cell_row rfl _ _ w.heap.size 28 _ (0,0) _ rfl (setRow_heap _ _ _ _ _ _ hn) rfl rfl (by kernel_rfl)) rfl ?_
  exact ⟨rfl,t1c hb (Nat.le_refl _)⟩
set_option maxHeartbeats 16000000 in
theorem tc9 (n : Int) (w : World) : Calls Tryz.prog 76 #[.int .i64 n] w fun e w'=>e = .returned (.agg #[.int .i64 4,.int .i64 n,.string ⟨#[]⟩,.slice none 0 0,.slice none 0 0,.slice none 0 0,.slice none 0 0]) ∧ Below w.heap.size w w':=by
  go_enter Tryz.func76,Tryz.ntmps76
  go_upto_region 1 with fail
  have hn:=heap_alloc_new w (.cells #[.int .i64 0,.int .i64 0,.string ⟨#[]⟩,.slice none 0 0,.slice none 0 0,.slice none 0 0,.slice none 0 0] 28)
  have hb : Below w.heap.size w (w.alloc (.cells #[.int .i64 0,.int .i64 0,.string ⟨#[]⟩,.slice none 0 0,.slice none 0 0,.slice none 0 0,.slice none 0 0] 28)):=(Below.refl _ _).alloc (Nat.le_refl _) _
  generalize w.alloc (.cells #[.int .i64 0,.int .i64 0,.string ⟨#[]⟩,.slice none 0 0,.slice none 0 0,.slice none 0 0,.slice none 0 0] 28) = w1 at *
  go_wp2_with (with_reducible refine wpList_store_row rfl 28 (.tmp 2) (.tmp 4) rfl _ _ rfl rfl _ _ hn (by kernel_rfl) (by kernel_rfl) (by kernel_rfl) ?_)
  refine bodyPost_ret (results_cell_row rfl _ _ w.heap.size 28 _ (0,0) _ rfl (setRow_heap _ _ _ _ _ _ hn) rfl rfl (by kernel_rfl)) rfl ?_
  exact ⟨rfl,t1c hb (Nat.le_refl _)⟩
set_option maxHeartbeats 16000000 in
theorem t3f (w : World) : Calls Tryz.prog 43 #[] w fun e w'=>e = .returned (.agg #[.int .i64 5,.int .i64 0,.string ⟨#[]⟩,.slice none 0 0,.slice none 0 0,.slice none 0 0,.slice none 0 0]) ∧ Below w.heap.size w w':=by
  go_enter Tryz.func43,Tryz.ntmps43
  go_upto_region 1 with fail
  have hn:=heap_alloc_new w (.cells #[.int .i64 0,.int .i64 0,.string ⟨#[]⟩,.slice none 0 0,.slice none 0 0,.slice none 0 0,.slice none 0 0] 28)
  have hb : Below w.heap.size w (w.alloc (.cells #[.int .i64 0,.int .i64 0,.string ⟨#[]⟩,.slice none 0 0,.slice none 0 0,.slice none 0 0,.slice none 0 0] 28)):=(Below.refl _ _).alloc (Nat.le_refl _) _
  generalize w.alloc (.cells #[.int .i64 0,.int .i64 0,.string ⟨#[]⟩,.slice none 0 0,.slice none 0 0,.slice none 0 0,.slice none 0 0] 28) = w1 at *
  go_wp2_with (with_reducible refine wpList_store_row rfl 28 (.tmp 0) (.tmp 1) rfl _ _ rfl rfl _ _ hn (by kernel_rfl) (by kernel_rfl) (by kernel_rfl) ?_)
  refine bodyPost_ret (results_cell_row rfl _ _ w.heap.size 28 _ (0,0) _ rfl (setRow_heap _ _ _ _ _ _ hn) rfl rfl (by kernel_rfl)) rfl ?_
  exact ⟨rfl,t1c hb (Nat.le_refl _)⟩
theorem t7r {E : Nat → Bool} {x : Nat} {w : World} {v : Value} {V : VV} (h : VW (we (ex E x) w) v V) (cs : Array Value) : VW (we E (w.setRow x cs)) v V :=
  (h.below (by rw [t0j];exact t4e (by simp [ex]) cs)).sub (t9s _ _ _)
theorem t4q {E : Nat → Bool} {x : Nat} {w w1 : World} (hb : Below w.heap.size w w1) (hx : w.heap.size ≤ x) : Below (we E w).heap.size (we E w) (we (ex E x) w1):=by
  rw [t0j];exact (t1l hb).trans (ex_in hx)
set_option maxHeartbeats 16000000 in
theorem tft (E : Nat → Bool) (l : List VV) (w : World) (v : Value) (hE : Old E w.heap.size) (h : KS (we E w) v l) (hl : l.length ≤ 1000000) : Calls Tryz.prog 81 #[v] w fun e w'=>∃ v',e = .returned v' ∧ KS (we E w') v' l ∧ Below w.heap.size w w':=by
  obtain ⟨d,p,c,rfl,hr⟩:=h
  obtain ⟨cs,h1,h2⟩:=hr.ch
  have H1:=zH (h1.sub (t3q E w));have H2:=zH h2;have Hone:=zH (h2.cells fun _ _ h=>h.one)
  have Hbw:=zH hE
  clear hr h1 h2 hE
  go_enter Tryz.func81,Tryz.ntmps81
  go_wp2_with (at_builtin;go_loud (refine t0x rfl (.const (.slice none 0 0)) (.tmp 3) 23 rfl 28 (by kernel_rfl) t1w rfl (by decide) (by decide) w.heap.size w p 0 l.length c [] cs (Nat.le_refl _) (.slice none 0 0) rfl rfl (World.ownsRow_nil _ _ _ _) H1.out Hone.out (by omega) ?_);intro v3 w3 ho3 hf3;have Hb3:=zH (hf3.below (Nat.le_refl _) (by simp) (fun g hg=>by simp [Value.ownBlock] at hg));rw [Nat.zero_add,List.nil_append] at ho3;have Ho3:=zH ho3;clear ho3 hf3)
  go_ret
  obtain ⟨pz,cz,e7,hrw⟩:=t1o (t1q Ho3.out Hbw.out) H2.out (by omega)
  exact ⟨_,rfl,⟨d,pz,cz,e7,hrw.mono fun x cs _ h=>h.below (by rw [t0j];exact t1l Hb3.out)⟩,Hb3.out⟩
theorem tf5 {w : World} {p : Option Addr} {c d : Nat} {l : List VV} (h : Rw w p c 7 l (VS w d)) (k n : Int) (s : ByteArray) : VW w (.agg #[.int .i64 k,.int .i64 n,.string s,.slice p l.length c,.slice none 0 0,.slice none 0 0,.slice none 0 0]) (.mk k n s l [] [] []) :=
  ⟨d + 1,_,rfl,p,c,none,0,none,0,none,0,rfl,h,Rw.nil _ _ _ _ _,Rw.nil _ _ _ _ _,Rw.nil _ _ _ _ _⟩
set_option maxHeartbeats 16000000 in
theorem ta6 (E : Nat → Bool) (l : List VV) (w : World) (v : Value) (hE : Old E w.heap.size) (h : KS (we E w) v l) (hl : l.length ≤ 1000000) : Calls Tryz.prog 42 #[v] w fun e w'=>∃ v',e = .returned v' ∧ VW (we E w') v' (.mk 6 0 t0u l [] [] []) ∧ Below w.heap.size w w':=by
  have H:=zH h
  obtain ⟨_,p,c,rfl,-⟩:=h
  go_enter Tryz.func42,Tryz.ntmps42
  go_upto_region 1 with fail
  have hn:=heap_alloc_new w (.cells #[.int .i64 0,.int .i64 0,.string ⟨#[]⟩,.slice none 0 0,.slice none 0 0,.slice none 0 0,.slice none 0 0] 28)
  have hb : Below w.heap.size w (w.alloc (.cells #[.int .i64 0,.int .i64 0,.string ⟨#[]⟩,.slice none 0 0,.slice none 0 0,.slice none 0 0,.slice none 0 0] 28)):=(Below.refl _ _).alloc (Nat.le_refl _) _
  generalize w.alloc (.cells #[.int .i64 0,.int .i64 0,.string ⟨#[]⟩,.slice none 0 0,.slice none 0 0,.slice none 0 0,.slice none 0 0] 28) = w1 at *
  have Hn:=zH hn;have Hb:=zH hb
  have Hc:=zH (tft (ex E w.heap.size) l w1 _ (t3e (hE.mono hb.size) (t0a hn)) (H.out.below (t4q hb (Nat.le_refl _))) hl)
  clear hn hb hE
  go_wp2_with (first
    | (go_at_call 81;refine Hc.out.mono ?_;rintro e w2 ⟨v2,rfl,hk,hb2⟩;obtain ⟨d2,p2,c2,rfl,hr2⟩:=hk;have Hr2:=zH hr2;have Hb2:=zH hb2;have Hn2:=zH ((hb2.block _ (t0a Hn.out)).trans Hn.out);clear hr2 hb2)
    | (with_reducible refine wpList_store_row rfl 28 (.tmp 2) (.tmp 5) rfl _ _ rfl rfl _ _ Hn2.out (by kernel_rfl) (by kernel_rfl) (by kernel_rfl) ?_))
  refine bodyPost_ret (results_cell_row rfl _ _ w.heap.size 28 _ (0,0) _ rfl (setRow_heap _ _ _ _ _ _ Hn2.out) rfl rfl (by kernel_rfl)) rfl ?_
  exact ⟨_,rfl,t7r (tf5 Hr2.out _ _ _) _,t1c (Hb.out.step Hb2.out) (Nat.le_refl _)⟩
theorem boxes3' (w : World) (A B C : Obj) : ∃ w3,((w.alloc A).alloc B).alloc C = w3 ∧ w3.heap[w.heap.size]? = some A ∧ w3.heap[w.heap.size + 1]? = some B ∧ w3.heap[w.heap.size + 1 + 1]? = some C ∧ Below w.heap.size w w3 ∧ w3.heap.size = w.heap.size + 1 + 1 + 1:=by
  obtain ⟨w3,e,h1,h2,h3,h4⟩:=t7n w A B C
  refine ⟨w3,e,h1,h2,h3,h4,?_⟩
  rw [← e];simp
set_option maxHeartbeats 16000000 in
theorem t6j (E : Nat → Bool) (H T : VV) (w : World) (u v : Value) (hE : Old E w.heap.size) (hu : VW (we E w) u H) (hv : VW (we E w) v T) : Calls Tryz.prog 44 #[u,v] w fun e w'=>∃ v',e = .returned v' ∧ VW (we E w') v' (.mk 7 0 t0u [H,T] [] [] []) ∧ Below w.heap.size w w':=by
  obtain ⟨d1,cs1,rfl,hH⟩:=hu
  obtain ⟨d2,cs2,rfl,hT⟩:=hv
  have HH:=zH hH;have HT:=zH hT;have HE:=zH hE
  obtain ⟨q1,q2,q3,q4,q5,q6,q7,q8,rfl⟩:=hH.seven
  obtain ⟨r1,r2,r3,r4,r5,r6,r7,r8,rfl⟩:=hT.seven
  clear hH hT hE
  go_enter Tryz.func44,Tryz.ntmps44
  go_upto_region 1 with fail
  obtain ⟨w3,e9,hA,hB,hC,hb,hs⟩:=boxes3' w (.cells #[.int .i64 H.kind,.int .i64 H.num,.string H.text,.slice q1 H.kids.length q2,.slice q3 H.keys.length q4,.slice q5 H.ents.length q6,.slice q7 H.labels.length q8] 28) (.cells #[.int .i64 T.kind,.int .i64 T.num,.string T.text,.slice r1 T.kids.length r2,.slice r3 T.keys.length r4,.slice r5 T.ents.length r6,.slice r7 T.labels.length r8] 28) (.cells #[.int .i64 0,.int .i64 0,.string ⟨#[]⟩,.slice none 0 0,.slice none 0 0,.slice none 0 0,.slice none 0 0] 28)
  rw [e9]
  obtain ⟨⟨f0,f1,f2,f3⟩,f4,f5,f6⟩:=t0f hA
  obtain ⟨⟨g0,g1,g2,g3⟩,g4,g5,g6⟩:=t0f hB
  have Hb:=zH hb;have HC:=zH hC;have Hs:=zH hs
  clear e9 hA hB hC hb hs
  have Hn:=zH (heap_alloc_new w3 (.cells #[.int .i64 H.kind,.int .i64 H.num,.string H.text,.slice q1 H.kids.length q2,.slice q3 H.keys.length q4,.slice q5 H.ents.length q6,.slice q7 H.labels.length q8,.int .i64 T.kind,.int .i64 T.num,.string T.text,.slice r1 T.kids.length r2,.slice r3 T.keys.length r4,.slice r5 T.ents.length r6,.slice r7 T.labels.length r8] 28))
  have Hb4:=zH ((Below.refl w3.heap.size w3).alloc (Nat.le_refl _) (.cells #[.int .i64 H.kind,.int .i64 H.num,.string H.text,.slice q1 H.kids.length q2,.slice q3 H.keys.length q4,.slice q5 H.ents.length q6,.slice q7 H.labels.length q8,.int .i64 T.kind,.int .i64 T.num,.string T.text,.slice r1 T.kids.length r2,.slice r3 T.keys.length r4,.slice r5 T.ents.length r6,.slice r7 T.labels.length r8] 28))
  have hC4:=(Hb4.out.block _ (t0a HC.out)).trans HC.out
  go_wp2_with (with_reducible refine wpList_store_row rfl 28 (.tmp 4) (.tmp 8) rfl _ _ rfl rfl _ _ hC4 (by kernel_rfl) (by kernel_rfl) (by kernel_rfl) ?_)
  refine bodyPost_ret (results_cell_row rfl _ _ (w.heap.size + 1 + 1) 28 _ (0,0) _ rfl (setRow_heap _ _ _ _ _ _ hC4) rfl rfl (by kernel_rfl)) rfl ?_
  generalize w3.alloc (.cells #[.int .i64 H.kind,.int .i64 H.num,.string H.text,.slice q1 H.kids.length q2,.slice q3 H.keys.length q4,.slice q5 H.ents.length q6,.slice q7 H.labels.length q8,.int .i64 T.kind,.int .i64 T.num,.string T.text,.slice r1 T.kids.length r2,.slice r3 T.keys.length r4,.slice r5 T.ents.length r6,.slice r7 T.labels.length r8] 28) = w4 at *
  refine ⟨_,rfl,t7r (x:=w.heap.size + 1 + 1) (tf5 (p:=some ⟨w3.heap.size,0,none⟩) (c:=2) (d:=max d1 d2) (l:=[H,T]) ?_ 7 0 ⟨#[]⟩) _,t1c (Hb.out.step Hb4.out) (by omega)⟩
  have hst:=t4q (E:=E) (x:=w.heap.size + 1 + 1) (Hb.out.step Hb4.out) (by omega)
  have e0 : ex E (w.heap.size + 1 + 1) w3.heap.size = false:=by have:=Hs.out;simp only [ex,Bool.or_eq_false_iff];exact ⟨HE.out _ (by omega),by simp;omega⟩
  refine Rw.of_ch (cs:=[.int .i64 H.kind,.int .i64 H.num,.string H.text,.slice q1 H.kids.length q2,.slice q3 H.keys.length q4,.slice q5 H.ents.length q6,.slice q7 H.labels.length q8,.int .i64 T.kind,.int .i64 T.num,.string T.text,.slice r1 T.kids.length r2,.slice r3 T.keys.length r4,.slice r5 T.ents.length r6,.slice r7 T.labels.length r8]) (RC.row (e:=28) rfl ((we_at e0).trans Hn.out) (fun j u hu=>by simpa using hu)) ?_ (by simp) (by simp)
  exact (Ch.single (cs:=[.int .i64 H.kind,.int .i64 H.num,.string H.text,.slice q1 H.kids.length q2,.slice q3 H.keys.length q4,.slice q5 H.ents.length q6,.slice q7 H.labels.length q8]) rfl ((HH.out.below hst).up (Nat.le_max_left _ _))).append (Ch.single (cs:=[.int .i64 T.kind,.int .i64 T.num,.string T.text,.slice r1 T.kids.length r2,.slice r3 T.keys.length r4,.slice r5 T.ents.length r6,.slice r7 T.labels.length r8]) rfl ((HT.out.below hst).up (Nat.le_max_right _ _)))
def VV.lab (V : VV) (l : List ByteArray) : VV:=.mk V.kind V.num V.text V.kids V.keys V.ents l
theorem t7s {w : World} {d : Nat} {V : VV} {l : List ByteArray} {q1 q3 q5 q7 : Option Addr} {q2 q4 q6 q8 : Nat} {u : Value} (h : VS w d V [.int .i64 V.kind,.int .i64 V.num,.string V.text,.slice q1 V.kids.length q2,.slice q3 V.keys.length q4,.slice q5 V.ents.length q6,.slice q7 V.labels.length q8]) (hl : SS w u l) : VW w (.agg #[.int .i64 V.kind,.int .i64 V.num,.string V.text,.slice q1 V.kids.length q2,.slice q3 V.keys.length q4,.slice q5 V.ents.length q6,u]) (V.lab l):=by
  cases d with
  | zero=>exact h.elim
  | succ d =>
    obtain ⟨p1,c1,p2,c2,p3,c3,p4,c4,e,h1,h2,h3,h4⟩:=h
    obtain ⟨p5,c5,rfl,h5⟩:=hl
    simp at e
    obtain ⟨⟨rfl,rfl⟩,⟨rfl,rfl⟩,⟨rfl,rfl⟩,rfl,rfl⟩:=e
    exact ⟨d + 1,_,rfl,_,_,_,_,_,_,p5,c5,rfl,h1,h2,h3,h5⟩
set_option maxHeartbeats 16000000 in
theorem tbs (E : Nat → Bool) (V : VV) (l : List ByteArray) (w : World) (v u : Value) (hE : Old E w.heap.size) (hv : VW (we E w) v V) (hu : SS (we E w) u l) (hl : l.length ≤ 100000) : Calls Tryz.prog 79 #[v,u] w fun e w'=>∃ v' l',e = .returned v' ∧ VW (we E w') v' (V.lab l') ∧ l'.length ≤ l.length ∧ Below w.heap.size w w':=by
  obtain ⟨d1,cs1,rfl,hH⟩:=hv
  have HH:=zH hH;have HE:=zH hE;have HU:=zH hu
  obtain ⟨q1,q2,q3,q4,q5,q6,q7,q8,rfl⟩:=hH.seven
  clear hH hE hu
  go_enter Tryz.func79,Tryz.ntmps79
  go_upto_region 1 with fail
  obtain ⟨w2,e9,hA,hC,hb⟩:=t1f w (.cells #[.int .i64 V.kind,.int .i64 V.num,.string V.text,.slice q1 V.kids.length q2,.slice q3 V.keys.length q4,.slice q5 V.ents.length q6,.slice q7 V.labels.length q8] 28) (.cells #[.int .i64 0,.int .i64 0,.string ⟨#[]⟩,.slice none 0 0,.slice none 0 0,.slice none 0 0,.slice none 0 0] 28)
  rw [e9]
  obtain ⟨⟨f0,f1,f2,f3⟩,f4,f5,f6⟩:=t0f hA
  have Hb:=zH hb;have HA:=zH hA;have HC:=zH hC
  have hlA:=t0a hA;have hlC:=t0a hC
  have Hst:=zH (show Below (we E w).heap.size (we E w) (we (ex (ex E w.heap.size) (w.heap.size + 1)) w2) from by rw [t0j];exact (t1l hb).trans ((ex_in (Nat.le_refl _)).trans (ex_in (by omega))))
  have Hs:=zH (t8n (ex (ex E w.heap.size) (w.heap.size + 1)) l w2 u (t3e (t3e (HE.out.mono hb.size) hlA) hlC) (HU.out.below Hst.out) hl)
  clear e9 hA hC hb f0 f1 f2 f3 f4 f5 f6
  go_upto_region 2 with (go_at_call 49;refine Hs.out.mono ?_;rintro e w3 ⟨v3,l3,rfl,hs3,hl3,hb3⟩;have Hl3:=zH hl3;clear hl3;obtain ⟨p9,c9,e9,-⟩:=(id hs3);subst e9;have Hs3:=zH hs3;have Hb3:=zH hb3;have hA3:=(hb3.block _ hlA).trans HA.out;have hU3:=zH (Upd.set (i:=6) (v:=.slice p9 l3.length c9) (Upd.refl hA3));have hz6 : w3.cell? ⟨w.heap.size,6,none⟩ = some (.slice q7 V.labels.length q8):=(by simp [World.cell?,hA3]);have hz7 : w3.frozen? ⟨w.heap.size,6,none⟩ = false:=(by simp [World.frozen?,hA3]))
  have hA4:=hU3.out.blk
  have hC4:=(hU3.out.other (w.heap.size + 1) (by omega)).trans ((Hb3.out.block _ hlC).trans HC.out)
  have Hb4:=zH (hU3.out.below (Nat.le_refl w.heap.size))
  have Hw4:=zH (fun B=>t1n (B:=B) (E:=ex (ex E w.heap.size) (w.heap.size + 1)) hU3.out (by simp [ex]))
  clear hA3 hz6 hz7
  generalize w3.setCell ⟨w.heap.size,6,none⟩ (.slice p9 l3.length c9) = w4 at *
  simp at hA4
  obtain ⟨⟨f0,f1,f2,f3⟩,f4,f5,f6⟩:=t0f hA4
  go_wp2_with (with_reducible refine wpList_store_row rfl 28 (.tmp 4) (.tmp 8) rfl _ _ rfl rfl _ _ hC4 (by kernel_rfl) (by kernel_rfl) (by kernel_rfl) ?_)
  refine bodyPost_ret (results_cell_row rfl _ _ (w.heap.size + 1) 28 _ (0,0) _ rfl (setRow_heap _ _ _ _ _ _ hC4) rfl rfl (by kernel_rfl)) rfl ?_
  have e4:=(Hst.out.step (by rw [t0j];exact t1l Hb3.out)).step (Hw4.out _)
  exact ⟨_,l3,rfl,(t7r (t7s (HH.out.below e4) (Hs3.out.below (Hw4.out _))) _).sub (t9s _ _ _),Hl3.out,t1c ((Hb.out.step Hb3.out).trans Hb4.out) (by omega)⟩
end Go.Proofs.YtjgldaaofdpcgaaGreat
