/- Walks and plain facts for the laws of membership, for all values and types that the heap holds (texts Z6). -/
import Derived.Test.YtjgldaaofdpcgaaGreatW03
import Derived.Test.YtjgldaaofdpcgaaGreatW21
set_option linter.unusedVariables false
set_option linter.unusedSimpArgs false
namespace Go.Proofs.YtjgldaaofdpcgaaGreat
open Go.RowKit Go.Ident
set_option maxRecDepth 100000
theorem t2z : (Tryz.prog.info? 73).map (fun i=>(i.zero,i.size,i.bytes)) = some (some (.agg #[.int .i64 0,.string ⟨#[]⟩]),2,24):=by kernel_rfl
theorem KC.one {k : KK} {cs : List Value} (h : KC k cs) : ∀ u ∈ cs,u.oneCell' = true:=by unfold KC at h;subst h;intro u hu;simp at hu;rcases hu with rfl | rfl <;> rfl
theorem t2m {w w' : World} {B B' n m : Nat} {e e' : TypeId} {s s' : Nat} {u v v1 : Value} {xs ys : List Value} (h : w.ownsRow B e s u n xs) (ho : w.ownsRow B' e' s' v m ys) (hne : e ≠ e') (hf : Fr [] v v1 w w') : w'.ownsRow B e s u n xs:=by
  refine t3l h fun g hg=>hf.block g (h.lt g hg).2 (by simp) ?_
  rcases h.2 with ⟨rfl,_⟩ | ⟨g',cap,cur,rfl,_,hc,_⟩
  · simp [Value.ownBlock] at hg
  · simp [Value.ownBlock] at hg
    subst hg
    exact own_ne' ho hc hne
theorem t1r {w w' : World} {B b n : Nat} {e : TypeId} {s : Nat} {u : Value} {xs : List Value} {o : Obj} (h : w.ownsRow B e s u n xs) (hU : Upd b o w w') (hb : b < B) : w'.ownsRow B e s u n xs :=
  t3l h fun g hg=>hU.other g (by have:=(h.lt g hg).1;omega)
theorem t4y {n : Nat} : zeroV.nodes ≤ 1 + n:=by simp [zeroV,VV.nodes,nodesVs,nodesEs]
def MR (E : Nat → Bool) (N : Nat) (w : World) (e : Ending) (w' : World) : Prop:=∃ v V c,e = .returned (.tuple #[v,.int .i64 c]) ∧ VW (we E w') v V ∧ V.nodes ≤ 1 + N ∧ V.labels = [] ∧ Below w.heap.size w w'
set_option maxHeartbeats 16000000 in
theorem ta7 (p : Option Addr) (n c : Nat) (cs : List Value) (w : World) (hr : RC w 7 p n cs) (h1 : ∀ u ∈ cs,u.oneCell' = true) (hn : n ≤ 1048576) : Calls Tryz.prog 81 #[.slice p n c] w fun e w'=>∃ v',e = .returned v' ∧ w'.ownsRow w.heap.size 28 7 v' n cs ∧ Below w.heap.size w w':=by
  have H1:=zH hr;have Hone:=zH h1
  clear hr h1
  go_enter Tryz.func81,Tryz.ntmps81
  go_wp2_with (at_builtin;go_loud (refine t0x rfl (.const (.slice none 0 0)) (.tmp 3) 23 rfl 28 (by kernel_rfl) t1w rfl (by decide) (by decide) w.heap.size w p 0 n c [] cs (Nat.le_refl _) (.slice none 0 0) rfl rfl (World.ownsRow_nil _ _ _ _) H1.out Hone.out (by omega) ?_);intro v3 w3 ho3 hf3;have Hb3:=zH (hf3.below (Nat.le_refl _) (by simp) (fun g hg=>by simp [Value.ownBlock] at hg));rw [Nat.zero_add,List.nil_append] at ho3;have Ho3:=zH ho3;clear ho3 hf3)
  go_ret
  exact ⟨_,rfl,Ho3.out,Hb3.out⟩
set_option maxHeartbeats 32000000 in
theorem t7b (E : Nat → Bool) (keys : List KK) (l : List VV) (w : World) (u v : Value) (hE : Old E w.heap.size) (hu : KY (we E w) u keys) (hv : KS (we E w) v l) (hl : keys.length ≤ 1000) : Calls Tryz.prog 46 #[u,v] w (MR E (l.map VV.nodes).sum w):=by
  have HE:=zH hE
  obtain ⟨pu,cu,rfl,hru⟩:=hu
  obtain ⟨d,pv,cv,rfl,hrv⟩:=hv
  have HU:=zH hru;have HV:=zH hrv
  have heq:=t4w
  have hbig:=hrv.big
  clear hru hrv hE
  go_enter Tryz.func46,Tryz.ntmps46
  go_upto_region 1 with fail
  have hC:=heap_alloc_new w (.cells #[.int .i64 0,.int .i64 0,.string ⟨#[]⟩,.slice none 0 0,.slice none 0 0,.slice none 0 0,.slice none 0 0] 28)
  have hb : Below w.heap.size w (w.alloc (.cells #[.int .i64 0,.int .i64 0,.string ⟨#[]⟩,.slice none 0 0,.slice none 0 0,.slice none 0 0,.slice none 0 0] 28)):=(Below.refl _ _).alloc (Nat.le_refl _) _
  have hs1 : (w.alloc (.cells #[.int .i64 0,.int .i64 0,.string ⟨#[]⟩,.slice none 0 0,.slice none 0 0,.slice none 0 0,.slice none 0 0] 28)).heap.size = w.heap.size + 1:=by simp
  generalize w.alloc (.cells #[.int .i64 0,.int .i64 0,.string ⟨#[]⟩,.slice none 0 0,.slice none 0 0,.slice none 0 0,.slice none 0 0] 28) = w1 at *
  have hlC:=t0a hC
  have HC:=zH hC;have Hb:=zH hb;have Hs1:=zH hs1
  clear hC hb hs1
  by_cases hlen : keys.length = l.length
  rotate_left
  · have d0 : ((keys.length : Int) != (l.length : Int)) = true:=by simp;omega
    clear hlen
    have hC:=((Below.refl w1.heap.size w1).block _ hlC).trans HC.out
    go_wp2_with (with_reducible refine wpList_store_row rfl 28 (.tmp 4) (.tmp 17) rfl _ _ rfl rfl _ _ hC (by kernel_rfl) (by kernel_rfl) (by kernel_rfl) ?_)
    refine bodyPost_ret (t1a rfl _ _ w.heap.size 28 _ (0,0) _ rfl (setRow_heap _ _ _ _ _ _ hC) rfl rfl (by kernel_rfl)) rfl ?_
    exact ⟨_,zeroV,1,rfl,vw0 _ _ _ _,t4y,rfl,t1c (Hb.out.step (Below.refl w1.heap.size w1)) (Nat.le_refl _)⟩
  have d0 : ((keys.length : Int) != (l.length : Int)) = false:=by simp;omega
  have Hlen:=zH hlen
  clear hlen
  go_wp2
  clear d0
  go_loopw [6] (fun i wr=>∃ k : Nat,i = .int .i64 k ∧ k ≤ keys.length ∧ Below w1.heap.size w1 wr) (fun i _=>keys.length - (intOf i).toNat)
  case atStart=>exact ⟨0,rfl,by omega,Below.refl _ _⟩
  case round =>
    obtain ⟨k,rfl,hk,hbr⟩:=hrel
    have Hbr:=zH hbr;have Hbw:=zH (Hb.out.step hbr)
    clear hbr
    by_cases hlt : k < keys.length
    · have d9 : decide (k < keys.length) = true:=by simp;omega
      obtain ⟨a,o,rfl,-,z0,z1⟩:=HU.out.key hlt
      have z0:=t0b Hbw.out (t1j z0).2
      have z1:=t0b Hbw.out (t1j z1).2
      generalize keys[k] = x at *
      have Hvk:=zH (t3v x.kind x.text wr)
      cases hv : valK x.kind x.text.data.toList with
      | false =>
        rw [hv] at Hvk
        clear hv
        go_upto_region 7 with (go_at_call 82;refine Hvk.out.mono ?_;rintro e w6 ⟨rfl,hb6⟩;have Hb6:=zH (Hbr.out.step hb6);clear hb6)
        have hC:=((Hb6.out).block _ hlC).trans HC.out
        go_wp2_with (with_reducible refine wpList_store_row rfl 28 (.tmp 4) (.tmp 30) rfl _ _ rfl rfl _ _ hC (by kernel_rfl) (by kernel_rfl) (by kernel_rfl) ?_)
        refine bodyPost_ret (t1a rfl _ _ w.heap.size 28 _ (0,0) _ rfl (setRow_heap _ _ _ _ _ _ hC) rfl rfl (by kernel_rfl)) rfl ?_
        exact ⟨_,zeroV,1,rfl,vw0 _ _ _ _,t4y,rfl,t1c (Hb.out.step (Hb6.out)) (Nat.le_refl _)⟩
      | true =>
        rw [hv] at Hvk
        clear hv
        go_wp2_with (go_at_call 82;refine Hvk.out.mono ?_;rintro e w6 ⟨rfl,hb6⟩;have Hb6:=zH (Hbr.out.step hb6);clear hb6)
        exact ⟨⟨k + 1,by go_num,by omega,Hb6.out⟩,by simp [intOf];omega⟩
    · have d9 : decide (k < keys.length) = false:=by simp;omega
      clear hlt
      go_upto_region 9 with fail
      have hAn:=heap_alloc_new wr (.cells #[.int .i64 8,.int .i64 0,.string ⟨#[]⟩,.slice none 0 0,.slice none 0 0,.slice none 0 0,.slice none 0 0] 28)
      have hbn : Below wr.heap.size wr (wr.alloc (.cells #[.int .i64 8,.int .i64 0,.string ⟨#[]⟩,.slice none 0 0,.slice none 0 0,.slice none 0 0,.slice none 0 0] 28)):=(Below.refl _ _).alloc (Nat.le_refl _) _
      generalize wr.alloc (.cells #[.int .i64 8,.int .i64 0,.string ⟨#[]⟩,.slice none 0 0,.slice none 0 0,.slice none 0 0,.slice none 0 0] 28) = wA at *
      have Hsr:=zH Hbr.out.size
      have HbA:=zH (Hbr.out.step hbn);have HA:=zH hAn
      clear hAn hbn
      generalize wr.heap.size = bv at *
      go_wp2
      go_loopw [8] (fun ix wr=>∃ (i : Nat) (K : List VV) (Y : List KK) (xs ys : List Value) (kv yv : Value),ix = .int .i64 i ∧ i ≤ keys.length ∧ K.length = i ∧ Y.length = i ∧ (K.map VV.nodes).sum = ((l.take i).map VV.nodes).sum ∧
          wr.heap[bv]? = some (.cells #[.int .i64 8,.int .i64 0,.string ⟨#[]⟩,kv,yv,.slice none 0 0,.slice none 0 0] 28) ∧ wr.ownsRow (bv + 1) 28 7 kv K.length xs ∧ Ch 7 (VS (we E w) d) K xs ∧ wr.ownsRow (bv + 1) 73 2 yv Y.length ys ∧ Ch 2 KC Y ys ∧ Below w1.heap.size w1 wr) (fun i _=>keys.length - (intOf i).toNat)
      case atStart=>exact ⟨0,[],[],[],[],_,_,rfl,by omega,rfl,rfl,by simp,HA.out,World.ownsRow_nil _ _ _ _,Ch.nil,World.ownsRow_nil _ _ _ _,Ch.nil,HbA.out⟩
      case round =>
        obtain ⟨i,K,Y,xs,ys,kv,yv,rfl,hi,hK,hY,hsum,hA,hoK,hcK,hoY,hcY,hbr⟩:=hrel
        obtain ⟨qk,cK,rfl⟩:=t0r hoK
        obtain ⟨qy,cY,rfl⟩:=t0r hoY
        have hKY : K.length = Y.length:=hK.trans hY.symm
        rw [hKY] at hoK hA
        have HKi:=zH hK;have HYi:=zH hY;have Hsum:=zH hsum;have HAr:=zH hA;have HoK:=zH hoK;have HcK:=zH hcK;have HoY:=zH hoY;have HcY:=zH hcY;have Hbr:=zH hbr
        have HYK:=zH (hY.trans hK.symm)
        have hYl : Y.length ≤ 1000:=by omega
        have hcYl : Y.length ≤ cY:=t5f hoY
        have hcKl : Y.length ≤ cK:=t5f hoK
        have Hbw:=zH (Hb.out.step hbr)
        clear hKY hK hY hsum hA hoK hcK hoY hcY hbr
        by_cases hlt : i < keys.length
        · have d9 : decide (i < keys.length) = true:=by simp;omega
          have hlv : i < l.length:=by have:=Hlen.out;omega
          obtain ⟨ay,oy,rfl,hay,ck0,ck1⟩:=HU.out.key hlt
          have hay : ay < w.heap.size:=by rwa [t0j] at hay
          have ck0:=t0b Hbw.out (t1j ck0).2
          have ck1:=t0b Hbw.out (t1j ck1).2
          have Hay:=zH hay
          generalize keys[i] = ky at *
          obtain ⟨ax,ox,csx,epx,hax,-,hrgx,hX⟩:=HV.out.at hlv
          subst epx
          have Hax:=zH (show ax < w.heap.size by rwa [t0j] at hax)
          obtain ⟨x1,x2,x3,x4,x5,x6,x7,x8,rfl⟩:=hX.seven
          have HXb:=zH hX
          have HX:=zH (hX.sub (t3q E w))
          have cx0:=t0b Hbw.out (t1j (hrgx 0 _ rfl)).2
          have cx1:=t0b Hbw.out (t1j (hrgx 1 _ rfl)).2
          have cx2:=t0b Hbw.out (t1j (hrgx 2 _ rfl)).2
          have cx3:=t0b Hbw.out (t1j (hrgx 3 _ rfl)).2
          have cx4:=t0b Hbw.out (t1j (hrgx 4 _ rfl)).2
          have cx5:=t0b Hbw.out (t1j (hrgx 5 _ rfl)).2
          have cx6:=t0b Hbw.out (t1j (hrgx 6 _ rfl)).2
          rw [Nat.add_zero] at cx0
          have Hsum1:=zH (show ((l.take (i + 1)).map VV.nodes).sum = ((l.take i).map VV.nodes).sum + l[i].nodes from by rw [List.take_succ_eq_append_getElem hlv,List.map_append,List.sum_append];simp only [List.map_cons,List.map_nil,List.sum_cons,List.sum_nil,Nat.add_zero])
          clear hrgx hX hax
          generalize l[i] = x at *
          obtain ⟨wq,hwq⟩ : ∃ wq : World,wq = wr:=⟨_,rfl⟩
          subst hwq
          go_wp2
          go_loopw [9] (fun ik wr=>∃ k : Nat,ik = .int .i64 k ∧ k ≤ Y.length ∧ Below wq.heap.size wq wr) (fun i _=>Y.length - (intOf i).toNat)
          case atStart=>exact ⟨0,rfl,by omega,Below.refl _ _⟩
          case round =>
            obtain ⟨k,rfl,hk,hb9⟩:=hrel
            have Hb9:=zH hb9
            clear hb9
            have HA9:=zH ((Hb9.out.block _ (t0a HAr.out)).trans HAr.out)
            obtain ⟨⟨f0,f1,f2,f3⟩,f4,f5,f6⟩:=t0f HA9.out
            have hk0:=t0b Hb9.out ck0;have hk1:=t0b Hb9.out ck1
            by_cases hkl : k < Y.length
            · have d8 : decide (k < Y.length) = true:=by simp;omega
              have HY9:=zH (t0d HoY.out Hb9.out (Nat.le_refl _))
              obtain ⟨q',cap',eq',hrw⟩:=t1o HY9.out HcY.out (by omega)
              injection eq' with eq1 _ eq3
              subst eq1 eq3
              obtain ⟨g,og,rfl,hg,y0,y1⟩:=hrw.key hkl
              clear hrw
              generalize hyk : Y[k] = yk at *
              have Hcall:=zH (t6z yk ky wr.drew)
              by_cases hz : cmpK yk ky < 0
              · have d1 : decide (cmpK yk ky < 0) = true:=by simp [hz]
                clear hz
                generalize cmpK yk ky = cc at *
                go_wp2_with (first
                  | (with_reducible refine rg ?_)
                  | (with_reducible refine fo ?_)
                  | (go_at_call 83;refine Hcall.out.mono ?_;rintro e w6 ⟨rfl,hb6⟩;have Hb6:=zH (Hb9.out.drew.step hb6);clear hb6))
                exact ⟨⟨k + 1,by go_num,by omega,Hb6.out⟩,by simp [intOf];omega⟩
              · have d1 : decide (cmpK yk ky < 0) = false:=by simp;omega
                clear hz
                generalize cmpK yk ky = cc at *
                cases hq : decide (yk = ky) with
                | true =>
                  go_upto_region 16 with (first
                    | (with_reducible refine rg ?_)
                    | (with_reducible refine fo ?_)
                    | (go_at_call 83;refine Hcall.out.mono ?_;rintro e w6 ⟨rfl,hb6⟩;have Hb6:=zH (Hb9.out.drew.step hb6);have f4':=t0b hb6 f4;have y0':=t0b hb6 y0;have y1':=t0b hb6 y1;have k0':=t0b hb6 hk0;have k1':=t0b hb6 hk1;clear hb6 f0 f1 f2 f3 f4 f5 f6 y0 y1 hk0 hk1))
                  have Hb7:=zH (show Below w1.heap.size w1 w6.drew from (Hbr.out.step Hb6.out).drew)
                  have hC:=((Hb7.out).block _ hlC).trans HC.out
                  go_wp2_with (with_reducible refine wpList_store_row rfl 28 (.tmp 4) (.tmp 75) rfl _ _ rfl rfl _ _ hC (by kernel_rfl) (by kernel_rfl) (by kernel_rfl) ?_)
                  refine bodyPost_ret (t1a rfl _ _ w.heap.size 28 _ (0,0) _ rfl (setRow_heap _ _ _ _ _ _ hC) rfl rfl (by kernel_rfl)) rfl ?_
                  exact ⟨_,zeroV,6,rfl,vw0 _ _ _ _,t4y,rfl,t1c (Hb.out.step (Hb7.out)) (Nat.le_refl _)⟩
                | false =>
                  go_upto_region 17 with (first
                    | (with_reducible refine rg ?_)
                    | (with_reducible refine fo ?_)
                    | (go_at_call 83;refine Hcall.out.mono ?_;rintro e w6 ⟨rfl,hb6⟩;have Hb6:=zH (Hb9.out.drew.step hb6);have f4':=t0b hb6 f4;have y0':=t0b hb6 y0;have y1':=t0b hb6 y1;have k0':=t0b hb6 hk0;have k1':=t0b hb6 hk1;clear hb6 f0 f1 f2 f3 f4 f5 f6 y0 y1 hk0 hk1))
                  have Hbd:=zH (show Below wq.heap.size wq w6.drew from Hb6.out.drew)
                  clear f4' y0' y1' k0' k1' hq d1
                  generalize w6.drew = wd at *
                  have HAd:=zH ((Hbd.out.block _ (t0a HAr.out)).trans HAr.out)
                  have HYd:=zH (t0d HoY.out Hbd.out (Nat.le_refl _));have HKd:=zH (t0d HoK.out Hbd.out (Nat.le_refl _))
                  have hkK : k ≤ K.length:=by have:=HYK.out;omega
                  obtain ⟨g2,og2,eq2,-,-⟩:=(RC.of_own HKd.out).2 (by have:=HYK.out;omega)
                  subst eq2
                  have HKlt:=zH (fun g (e : (g : Nat) = g2)=>show bv < g2 from by have:=(HKd.out.lt g2 rfl).1;omega)
                  have HKin:=zH (fun (a o : Nat) (e : (some ⟨g2,og2 + k * 7,none⟩ : Option Addr) = some ⟨a,o,none⟩)=>show a < wd.heap.size from by injection e with e;injection e with e1 _;subst e1;exact (HKd.out.lt g2 rfl).2)
                  obtain ⟨⟨f0,f1,f2,f3⟩,f4,f5,f6⟩:=t0f HAd.out
                  have LV:=zH (show bv < wd.heap.size from t0a HAd.out)
                  have LAY:=zH (show ay < wd.heap.size from Nat.lt_of_lt_of_le Hay.out (Nat.le_trans Hbw.out.size Hbd.out.size))
                  have Y4:=zH (show wd.drew.cell? ⟨bv,4,none⟩ = _ from f4)
                  have Y3:=zH (show wd.drew.cell? ⟨bv,3,none⟩ = _ from f3)
                  have Hry:=zH (RC.of_own HYd.out);have Hrk:=zH (RC.of_own HKd.out)
                  have HoneY:=zH (HcY.out.cells fun _ _ h=>h.one)
                  have HoneK:=zH (HcK.out.cells fun _ _ h=>h.one)
                  have HoTY:=zH (fun u hu=>HoneY.out u (List.mem_of_mem_take (i:=k * 2) hu))
                  have HoDY:=zH (fun u hu=>HoneY.out u (List.mem_of_mem_drop (i:=k * 2) hu))
                  have HoTK:=zH (fun u hu=>HoneK.out u (List.mem_of_mem_take (i:=k * 7) hu))
                  have HoDK:=zH (fun u hu=>HoneK.out u (List.mem_of_mem_drop (i:=k * 7) hu))
                  have HcTY:=zH (HcY.out.take (k:=k) hk);have HcDY:=zH (HcY.out.drop (k:=k) hk)
                  have HcTK:=zH (HcK.out.take (k:=k) hkK);have HcDK:=zH (HcK.out.drop (k:=k) hkK)
                  have HlY:=zH (show ys.length = Y.length * 2 from HYd.out.1)
                  have HlK:=zH (show xs.length = Y.length * 7 from HKd.out.1)
                  have HTY:=zH (Hry.out.take hk);have HTK:=zH (Hrk.out.take hk)
                  have HDY:=zH (Hry.out.drop hk);have HDK:=zH (Hrk.out.drop hk)
                  have d6 : k ≤ cK:=by omega
                  have d5 : k ≤ cY:=by omega
                  have n0:=t0b Hbd.out ck0;have n1:=t0b Hbd.out ck1
                  go_upto_region 18 with (first
                    | ((with_reducible refine Lex.t0w ?_);refine fE (by repeat first | exact LexK.t0t | refine LexK.t0o rfl ?_ | refine LexK.t0p (by decide +kernel) ?_ | refine LexK.t0c rfl LV.out Y4.out ?_ | refine LexK.t0c rfl LV.out Y3.out ?_) ?_)
                    | ((with_reducible refine Lex.t0q ?_);refine LexK.t0h (fun x=>x < wd.heap.size) (by kernel_rfl) (by decide +kernel) ?_)
                    | (with_reducible first | refine qH ?_ | refine LexK.t0s ?_ | refine LexK.t0v ?_)
                    | ((with_reducible refine Lex.t1b ?_);first | (refine LexK.t0e hex3.out ?_) | (refine LexK.t0e hex5.out ?_) | (refine LexK.t0e (LexK.Ext.alloc _ _) ?_) | (refine LexK.t0e (LexK.Ext.refl _) ?_))
                    | (at_builtin;(refine t0x rfl (.const (.slice none 0 0)) (.tmp 79) 24 rfl 73 (by kernel_rfl) t2z rfl (by decide) (by decide) wd.heap.size wd.drew (some ⟨g,og,none⟩) 0 k _ [] (ys.take (k * 2)) (Nat.le_refl _) (.slice none 0 0) rfl rfl (World.ownsRow_nil _ _ _ _) (HTY.out.below (Below.refl _ _).drew) HoTY.out (by omega) ?_);intro v3 w3 ho3 hf3;have hb3 : Below wd.heap.size wd.drew w3:=(hf3.below (Nat.le_refl _) (by simp) (fun g hg=>by simp [Value.ownBlock] at hg));have hex3:=zH (show LexK.Ext (fun x=>x < wd.heap.size) wd.drew w3 from t2j hb3);have Hb3:=zH (show Below wd.heap.size wd w3 from (Below.refl _ _).drew.trans hb3);rw [Nat.zero_add,List.nil_append] at ho3;obtain ⟨p3,c3,rfl⟩:=t0r ho3;have Ho3:=zH ho3;have f3':=t0b Hb3.out f3;clear ho3 hf3 hb3)
                    | (go_at_call 81;refine (ta7 _ k _ (xs.take (k * 7)) w3 (HTK.out.below Hb3.out) HoTK.out (by omega)).mono ?_;rintro e w5 ⟨v5,rfl,ho5,hb5⟩;obtain ⟨p5,c5,rfl⟩:=t0r ho5;have hex5:=zH (show LexK.Ext (fun x=>x < wd.heap.size) w3 w5 from t2j (hb5.mono Hb3.out.size));have Ho5:=zH (t2c ho5 Hb3.out.size);have Hb5:=zH (Hb3.out.trans (hb5.mono Hb3.out.size));have Ho3b:=zH (t0d Ho3.out hb5 (Nat.le_refl _));clear ho5 hb5))
                  clear f0 f1 f2 f3 f4 f5 f6
                  have HA5:=zH ((Hb5.out.block _ LV.out).trans HAd.out)
                  obtain ⟨⟨f0,f1,f2,f3⟩,f4,f5,f6⟩:=t0f HA5.out
                  have m0:=t0b Hb5.out n0;have m1:=t0b Hb5.out n1
                  have Yk:=zH (show w5.drew.cell? ⟨ay,oy + i * 2,none⟩ = _ from m0)
                  have Y4':=zH (show w5.drew.cell? ⟨bv,4,none⟩ = _ from f4)
                  have Hwx:=zH (Hb5.out.drew.alloc Hb5.out.size (.cells #[.int .i64 ky.kind,.string ky.text] 73))
                  have Ho3x:=zH (t0d Ho3b.out ((Below.refl w5.heap.size w5).drew.alloc (Nat.le_refl _) (.cells #[.int .i64 ky.kind,.string ky.text] 73)) (Nat.le_refl _))
                  have Ho5x:=zH (t0d Ho5.out ((Below.refl w5.heap.size w5).drew.alloc (Nat.le_refl _) (.cells #[.int .i64 ky.kind,.string ky.text] 73)) (Nat.le_refl _))
                  go_upto_region 19 with (first
                    | ((with_reducible refine Lex.t0w ?_);refine fE (by repeat first | exact LexK.t0t | refine LexK.t0o rfl ?_ | refine LexK.t0p (by decide +kernel) ?_ | refine LexK.t0c rfl LV.out Y4'.out ?_ | refine LexK.t0c rfl LAY.out Yk.out ?_) ?_)
                    | ((with_reducible refine Lex.t0q ?_);refine LexK.t0h (fun x=>x < wd.heap.size) (by kernel_rfl) (by decide +kernel) ?_)
                    | (with_reducible first | refine qH ?_ | refine LexK.t0s ?_ | refine LexK.t0v ?_)
                    | ((with_reducible refine Lex.t1b ?_);first | (refine LexK.t0e hex6.out ?_) | (refine LexK.t0e hex7.out ?_) | (refine LexK.t0e (LexK.Ext.alloc _ _) ?_) | (refine LexK.t0e (LexK.Ext.refl _) ?_))
                    | (at_builtin;first
                        | (refine t0n rfl (.tmp 86) (.tmp 91) 24 rfl 73 (by kernel_rfl) t2z rfl (by decide) (by decide) wd.heap.size _ w5.drew.heap.size [.int .i64 ky.kind,.string ky.text] (heap_alloc_new w5.drew _) (Nat.le_trans Hb5.out.size (by simp)) rfl (by intro u hu;simp at hu;rcases hu with rfl | rfl <;> rfl) (.slice p3 k c3) k (ys.take (k * 2)) rfl Ho3x.out (by omega) rfl ?_;intro v6 w6 ho6 hf6;have hb6:=(hf6.below (Nat.le_trans Hb5.out.size (by simp)) (by simp) fun g hg=>(Ho3x.out.lt g hg).1);have hex6:=zH (show LexK.Ext (fun x=>x < wd.heap.size) (w5.drew.alloc (.cells #[.int .i64 ky.kind,.string ky.text] 73)) w6 from t2j hb6);have Hb6:=zH (Hwx.out.trans hb6);have Ho5c:=zH (t2m Ho5x.out Ho3x.out (by decide) hf6);obtain ⟨p6,c6,rfl⟩:=t0r ho6;have Ho6:=zH ho6;have f4x : w6.cell? ⟨bv,4,none⟩ = _:=(Hb6.out.cell (p:=⟨bv,_,none⟩) LV.out).trans Y4.out;clear ho6 hf6 hb6)
                        | (refine t0x rfl (.tmp 92) (.tmp 96) 24 rfl 73 (by kernel_rfl) t2z rfl (by decide) (by decide) wd.heap.size w6 (some ⟨g,og + k * 2,none⟩) (k + 1) (Y.length - k) _ (ys.take (k * 2) ++ [.int .i64 ky.kind,.string ky.text]) (ys.drop (k * 2)) Hb6.out.size (.slice p6 (k + 1) c6) rfl rfl Ho6.out (HDY.out.below Hb6.out) HoDY.out (by omega) ?_;intro v7 w7 ho7 hf7;have hb7:=(hf7.below Hb6.out.size (by simp) fun g hg=>(Ho6.out.lt g hg).1);have hex7:=zH (show LexK.Ext (fun x=>x < wd.heap.size) w6 w7 from t2j hb7);have Hb7:=zH (Hb6.out.trans hb7);have Ho5d:=zH (t2m Ho5c.out Ho6.out (by decide) hf7);obtain ⟨p7,c7,rfl⟩:=t0r ho7;have Ho7:=zH ho7;have HA7:=zH ((Hb7.out.block _ LV.out).trans HAd.out);obtain ⟨-,hz4,-,-⟩:=t0f HA7.out;have hz5 : w7.frozen? ⟨bv,4,none⟩ = false:=(by simp [World.frozen?,HA7.out]);clear ho7 hf7 hb7)))
                  have HU8:=zH (Upd.set (i:=4) (v:=.slice p7 (k + 1 + (Y.length - k)) c7) (Upd.refl HA7.out))
                  have Hb8:=zH (show Below bv wd (w7.setCell ⟨bv,4,none⟩ (.slice p7 (k + 1 + (Y.length - k)) c7)) from (Hb7.out.mono (Nat.le_of_lt LV.out)).trans (HU8.out.below (Nat.le_refl _)))
                  have Ho7e:=zH (t1r Ho7.out HU8.out LV.out)
                  have Ho5e:=zH (t1r Ho5d.out HU8.out LV.out)
                  have HA8:=zH (show (w7.setCell ⟨bv,4,none⟩ (.slice p7 (k + 1 + (Y.length - k)) c7)).heap[bv]? = some (.cells #[.int .i64 8,.int .i64 0,.string ⟨#[]⟩,(.slice (some ⟨g2,og2,none⟩) Y.length cK),(.slice p7 (k + 1 + (Y.length - k)) c7),.slice none 0 0,.slice none 0 0] 28) from by have:=HU8.out.blk;simpa using this)
                  have Hcx:=zH (fun (a o : Nat) (z : Value) (ha : a < bv) (h : wd.cell? ⟨a,o,none⟩ = some z)=>(Hb8.out.cell (p:=⟨a,o,none⟩) ha).trans h)
                  have HDK8:=zH (show RC (w7.setCell ⟨bv,4,none⟩ (.slice p7 (k + 1 + (Y.length - k)) c7)) 7 (some ⟨g2,og2 + k * 7,none⟩) (Y.length - k) (xs.drop (k * 7)) from (HDK.out.below Hb7.out).fr (Nat.le_of_eq HU8.out.size.symm) fun a o e1 _=>HU8.out.other a (by intro e2;injection e1 with e1;injection e1 with e11 e12;subst e11;exact absurd e2 (Nat.ne_of_gt (HKlt.out _ rfl))))
                  clear f0 f1 f2 f3 f4 f5 f6 m0 m1 hz4 hz5
                  generalize w7.setCell ⟨bv,4,none⟩ (.slice p7 (k + 1 + (Y.length - k)) c7) = w8 at *
                  obtain ⟨⟨f0,f1,f2,f3⟩,f4,f5,f6⟩:=t0f HA8.out
                  have hax2 : ax < bv:=Nat.lt_of_lt_of_le Hax.out (Nat.le_trans (Nat.le_of_lt hlC) Hsr.out)
                  have LAX:=zH (show ax < wd.heap.size from Nat.lt_trans hax2 LV.out)
                  have x0':=Hcx.out ax _ _ hax2 (t0b Hbd.out cx0)
                  have x1':=Hcx.out ax _ _ hax2 (t0b Hbd.out cx1)
                  have x2':=Hcx.out ax _ _ hax2 (t0b Hbd.out cx2)
                  have x3':=Hcx.out ax _ _ hax2 (t0b Hbd.out cx3)
                  have x4':=Hcx.out ax _ _ hax2 (t0b Hbd.out cx4)
                  have x5':=Hcx.out ax _ _ hax2 (t0b Hbd.out cx5)
                  have x6':=Hcx.out ax _ _ hax2 (t0b Hbd.out cx6)
                  have Yx:=zH (show w8.drew.cell? ⟨ax,ox + i * 7,none⟩ = _ from x0')
                  have Y3x:=zH (show w8.drew.cell? ⟨bv,3,none⟩ = _ from f3)
                  have Hs8:=zH (show wd.heap.size ≤ w8.heap.size from Hb8.out.size)
                  have Hox:=zH (HX.out.one)
                  have Ho5g:=zH (t0d Ho5e.out ((Below.refl w8.heap.size w8).drew.alloc (Nat.le_refl _) (.cells #[.int .i64 x.kind,.int .i64 x.num,.string x.text,.slice x1 x.kids.length x2,.slice x3 x.keys.length x4,.slice x5 x.ents.length x6,.slice x7 x.labels.length x8] 28)) (Nat.le_refl _))
                  have Ho7g:=zH (t0d Ho7e.out ((Below.refl w8.heap.size w8).drew.alloc (Nat.le_refl _) (.cells #[.int .i64 x.kind,.int .i64 x.num,.string x.text,.slice x1 x.kids.length x2,.slice x3 x.keys.length x4,.slice x5 x.ents.length x6,.slice x7 x.labels.length x8] 28)) (Nat.le_refl _))
                  have Hw8x:=zH ((Below.refl w8.heap.size w8).drew.alloc (Nat.le_refl _) (.cells #[.int .i64 x.kind,.int .i64 x.num,.string x.text,.slice x1 x.kids.length x2,.slice x3 x.keys.length x4,.slice x5 x.ents.length x6,.slice x7 x.labels.length x8] 28))
                  go_upto_region 11 with (first
                    | ((with_reducible refine Lex.t0w ?_);refine fE (by repeat first | exact LexK.t0t | refine LexK.t0o rfl ?_ | refine LexK.t0p (by decide +kernel) ?_ | refine LexK.t0c rfl LV.out Y3x.out ?_ | refine LexK.t0c rfl LAX.out Yx.out ?_) ?_)
                    | ((with_reducible refine Lex.t0q ?_);refine LexK.t0h (fun x=>x < wd.heap.size) (by kernel_rfl) (by decide +kernel) ?_)
                    | (with_reducible first | refine qH ?_ | refine LexK.t0s ?_ | refine LexK.t0v ?_)
                    | ((with_reducible refine Lex.t1b ?_);first | (refine LexK.t0e hex9.out ?_) | (refine LexK.t0e hexA.out ?_) | (refine LexK.t0e (LexK.Ext.alloc _ _) ?_) | (refine LexK.t0e (LexK.Ext.refl _) ?_))
                    | (at_builtin;first
                        | (refine t0n rfl (.tmp 99) (.tmp 104) 23 rfl 28 (by kernel_rfl) t1w rfl (by decide) (by decide) wd.heap.size _ w8.drew.heap.size [.int .i64 x.kind,.int .i64 x.num,.string x.text,.slice x1 x.kids.length x2,.slice x3 x.keys.length x4,.slice x5 x.ents.length x6,.slice x7 x.labels.length x8] (heap_alloc_new w8.drew _) (Nat.le_trans Hs8.out (by simp)) rfl Hox.out (.slice p5 k c5) k (xs.take (k * 7)) rfl Ho5g.out (by omega) rfl ?_;intro v9 w9 ho9 hf9;have hb9:=(hf9.below (Nat.le_trans Hs8.out (by simp)) (by simp) fun g hg=>(Ho5g.out.lt g hg).1);have hex9:=zH (show LexK.Ext (fun x=>x < wd.heap.size) (w8.drew.alloc (.cells #[.int .i64 x.kind,.int .i64 x.num,.string x.text,.slice x1 x.kids.length x2,.slice x3 x.keys.length x4,.slice x5 x.ents.length x6,.slice x7 x.labels.length x8] 28)) w9 from t2j hb9);have Hb9x:=zH (show Below wd.heap.size w8 w9 from (Hw8x.out.mono Hs8.out).trans hb9);have Ho7h:=zH (t2m Ho7g.out Ho5g.out (by decide) hf9);obtain ⟨p9,c9,rfl⟩:=t0r ho9;have Ho9:=zH ho9;have f3x : w9.cell? ⟨bv,3,none⟩ = _:=(Hb9x.out.cell (p:=⟨bv,_,none⟩) LV.out).trans f3;clear ho9 hf9 hb9)
                        | (refine t0x rfl (.tmp 105) (.tmp 109) 23 rfl 28 (by kernel_rfl) t1w rfl (by decide) (by decide) wd.heap.size w9 (some ⟨g2,og2 + k * 7,none⟩) (k + 1) (Y.length - k) _ (xs.take (k * 7) ++ [.int .i64 x.kind,.int .i64 x.num,.string x.text,.slice x1 x.kids.length x2,.slice x3 x.keys.length x4,.slice x5 x.ents.length x6,.slice x7 x.labels.length x8]) (xs.drop (k * 7)) (Nat.le_trans Hs8.out Hb9x.out.size) (.slice p9 (k + 1) c9) rfl rfl Ho9.out (HDK8.out.fr Hb9x.out.size fun a o e1 _=>Hb9x.out.block a (HKin.out a o e1)) HoDK.out (by omega) ?_;intro vA wA' hoA hfA;have hbA:=(hfA.below (Nat.le_trans Hs8.out Hb9x.out.size) (by simp) fun g hg=>(Ho9.out.lt g hg).1);have hexA:=zH (show LexK.Ext (fun x=>x < wd.heap.size) w9 wA' from t2j hbA);have HbA':=zH (Hb9x.out.trans hbA);have Ho7k:=zH (t2m Ho7h.out Ho9.out (by decide) hfA);obtain ⟨pA,cA,rfl⟩:=t0r hoA;have HoA:=zH hoA;have HAA:=zH ((HbA'.out.block _ LV.out).trans HA8.out);obtain ⟨⟨-,-,-,hz3⟩,-,-,-⟩:=t0f HAA.out;have hz5 : wA'.frozen? ⟨bv,3,none⟩ = false:=(by simp [World.frozen?,HAA.out]);clear hoA hfA hbA)))
                  have HUB:=zH (Upd.set (i:=3) (v:=.slice pA (k + 1 + (Y.length - k)) cA) (Upd.refl HAA.out))
                  have hbB : Below bv wd (wA'.setCell ⟨bv,3,none⟩ (.slice pA (k + 1 + (Y.length - k)) cA)):=Hb8.out.trans ((HbA'.out.mono (Nat.le_of_lt LV.out)).trans (HUB.out.below (Nat.le_refl _)))
                  have hoY':=t2c (t1r Ho7k.out HUB.out LV.out) (B':=bv + 1) LV.out
                  have hoK':=t2c (t1r HoA.out HUB.out LV.out) (B':=bv + 1) LV.out
                  have hAB : (wA'.setCell ⟨bv,3,none⟩ (.slice pA (k + 1 + (Y.length - k)) cA)).heap[bv]? = some (.cells #[.int .i64 8,.int .i64 0,.string ⟨#[]⟩,(.slice pA (k + 1 + (Y.length - k)) cA),(.slice p7 (k + 1 + (Y.length - k)) c7),.slice none 0 0,.slice none 0 0] 28):=by have:=HUB.out.blk;simpa using this
                  clear f0 f1 f2 f3 f4 f5 f6 hz3
                  generalize wA'.setCell ⟨bv,3,none⟩ (.slice pA (k + 1 + (Y.length - k)) cA) = wB at *
                  have lY : (Y.take k ++ [ky] ++ Y.drop k).length = k + 1 + (Y.length - k):=by rw [List.length_append,List.length_append,List.length_take,List.length_drop,List.length_singleton];omega
                  have lK : (K.take k ++ [x] ++ K.drop k).length = k + 1 + (Y.length - k):=by rw [List.length_append,List.length_append,List.length_take,List.length_drop,List.length_singleton];have:=HYK.out;omega
                  have hsm : ((K.take k ++ [x] ++ K.drop k).map VV.nodes).sum = ((l.take (i + 1)).map VV.nodes).sum:=by
                    rw [Hsum1.out,← Hsum.out]
                    conv=>rhs;rw [← List.take_append_drop k K]
                    simp only [List.map_append,List.sum_append,List.map_cons,List.map_nil,List.sum_cons,List.sum_nil]
                    omega
                  go_wp2
                  refine ⟨⟨i + 1,K.take k ++ [x] ++ K.drop k,Y.take k ++ [ky] ++ Y.drop k,xs.take (k * 7) ++ [.int .i64 x.kind,.int .i64 x.num,.string x.text,.slice x1 x.kids.length x2,.slice x3 x.keys.length x4,.slice x5 x.ents.length x6,.slice x7 x.labels.length x8] ++ (xs.drop (k * 7)),ys.take (k * 2) ++ [.int .i64 ky.kind,.string ky.text] ++ (ys.drop (k * 2)),_,_,by go_num,by omega,by rw [lK];have:=HYi.out;omega,by rw [lY];have:=HYi.out;omega,hsm,hAB,by rw [lK];exact hoK',?_,by rw [lY];exact hoY',?_,Hbr.out.trans ((Hbd.out.mono Hbr.out.size).trans (hbB.mono Hsr.out))⟩,by simp [intOf];omega⟩
                  · exact (HcTK.out.append (Ch.single rfl HXb.out)).append HcDK.out
                  · exact (HcTY.out.append (Ch.single rfl rfl)).append HcDY.out
            · obtain rfl : k = Y.length:=by omega
              have d8 : decide (Y.length < Y.length) = false:=by simp
              go_upto_region 17 with (first
                | (with_reducible refine rg ?_)
                | (with_reducible refine fo ?_))
              have Hbd:=zH (show Below wq.heap.size wq wr.drew.drew from Hb9.out.drew.drew)
              clear f0 f1 f2 f3 f4 f5 f6 hk0 hk1
              generalize wr.drew.drew = wd at *
              have HAd:=zH ((Hbd.out.block _ (t0a HAr.out)).trans HAr.out)
              have HYd:=zH (t0d HoY.out Hbd.out (Nat.le_refl _));have HKd:=zH (t0d HoK.out Hbd.out (Nat.le_refl _))
              obtain ⟨⟨f0,f1,f2,f3⟩,f4,f5,f6⟩:=t0f HAd.out
              have LV:=zH (show bv < wd.heap.size from t0a HAd.out)
              have LAY:=zH (show ay < wd.heap.size from Nat.lt_of_lt_of_le Hay.out (Nat.le_trans Hbw.out.size Hbd.out.size))
              have Y4:=zH (show wd.drew.cell? ⟨bv,4,none⟩ = _ from f4)
              have Y3:=zH (show wd.drew.cell? ⟨bv,3,none⟩ = _ from f3)
              have Hry:=zH (RC.of_own HYd.out);have Hrk:=zH (RC.of_own HKd.out)
              have HoneY:=zH (HcY.out.cells fun _ _ h=>h.one)
              have HoneK:=zH (HcK.out.cells fun _ _ h=>h.one)
              have HoTY:=zH (fun u hu=>HoneY.out u (List.mem_of_mem_take (i:=Y.length * 2) hu))
              have HoDY:=zH (fun u hu=>HoneY.out u (List.mem_of_mem_drop (i:=Y.length * 2) hu))
              have HoTK:=zH (fun u hu=>HoneK.out u (List.mem_of_mem_take (i:=Y.length * 7) hu))
              have HoDK:=zH (fun u hu=>HoneK.out u (List.mem_of_mem_drop (i:=Y.length * 7) hu))
              have HcTY:=zH (HcY.out.take (k:=Y.length) (Nat.le_refl _));have HcDY:=zH (HcY.out.drop (k:=Y.length) (Nat.le_refl _))
              have HcTK:=zH (HcK.out.take (k:=Y.length) (Nat.le_of_eq HYK.out));have HcDK:=zH (HcK.out.drop (k:=Y.length) (Nat.le_of_eq HYK.out))
              have HlY:=zH (show ys.length = Y.length * 2 from HYd.out.1)
              have HlK:=zH (show xs.length = Y.length * 7 from HKd.out.1)
              have HTY:=zH (Hry.out.take (Nat.le_refl _));have HTK:=zH (Hrk.out.take (Nat.le_refl _))
              have d6 : Y.length ≤ cK:=by omega
              have d5 : Y.length ≤ cY:=by omega
              have n0:=t0b Hbd.out ck0;have n1:=t0b Hbd.out ck1
              go_upto_region 18 with (first
                | ((with_reducible refine Lex.t0w ?_);refine fE (by repeat first | exact LexK.t0t | refine LexK.t0o rfl ?_ | refine LexK.t0p (by decide +kernel) ?_ | refine LexK.t0c rfl LV.out Y4.out ?_ | refine LexK.t0c rfl LV.out Y3.out ?_) ?_)
                | ((with_reducible refine Lex.t0q ?_);refine LexK.t0h (fun x=>x < wd.heap.size) (by kernel_rfl) (by decide +kernel) ?_)
                | (with_reducible first | refine qH ?_ | refine LexK.t0s ?_ | refine LexK.t0v ?_)
                | ((with_reducible refine Lex.t1b ?_);first | (refine LexK.t0e hex3.out ?_) | (refine LexK.t0e hex5.out ?_) | (refine LexK.t0e (LexK.Ext.alloc _ _) ?_) | (refine LexK.t0e (LexK.Ext.refl _) ?_))
                | (at_builtin;(refine t0x rfl (.const (.slice none 0 0)) (.tmp 79) 24 rfl 73 (by kernel_rfl) t2z rfl (by decide) (by decide) wd.heap.size wd.drew qy 0 Y.length _ [] (ys.take (Y.length * 2)) (Nat.le_refl _) (.slice none 0 0) rfl rfl (World.ownsRow_nil _ _ _ _) (HTY.out.below (Below.refl _ _).drew) HoTY.out (by omega) ?_);intro v3 w3 ho3 hf3;have hb3 : Below wd.heap.size wd.drew w3:=(hf3.below (Nat.le_refl _) (by simp) (fun g hg=>by simp [Value.ownBlock] at hg));have hex3:=zH (show LexK.Ext (fun x=>x < wd.heap.size) wd.drew w3 from t2j hb3);have Hb3:=zH (show Below wd.heap.size wd w3 from (Below.refl _ _).drew.trans hb3);rw [Nat.zero_add,List.nil_append] at ho3;obtain ⟨p3,c3,rfl⟩:=t0r ho3;have Ho3:=zH ho3;have f3':=t0b Hb3.out f3;clear ho3 hf3 hb3)
                | (go_at_call 81;refine (ta7 _ Y.length _ (xs.take (Y.length * 7)) w3 (HTK.out.below Hb3.out) HoTK.out (by omega)).mono ?_;rintro e w5 ⟨v5,rfl,ho5,hb5⟩;obtain ⟨p5,c5,rfl⟩:=t0r ho5;have hex5:=zH (show LexK.Ext (fun x=>x < wd.heap.size) w3 w5 from t2j (hb5.mono Hb3.out.size));have Ho5:=zH (t2c ho5 Hb3.out.size);have Hb5:=zH (Hb3.out.trans (hb5.mono Hb3.out.size));have Ho3b:=zH (t0d Ho3.out hb5 (Nat.le_refl _));clear ho5 hb5))
              clear f0 f1 f2 f3 f4 f5 f6
              have HA5:=zH ((Hb5.out.block _ LV.out).trans HAd.out)
              obtain ⟨⟨f0,f1,f2,f3⟩,f4,f5,f6⟩:=t0f HA5.out
              have m0:=t0b Hb5.out n0;have m1:=t0b Hb5.out n1
              have Yk:=zH (show w5.drew.cell? ⟨ay,oy + i * 2,none⟩ = _ from m0)
              have Y4':=zH (show w5.drew.cell? ⟨bv,4,none⟩ = _ from f4)
              have Hwx:=zH (Hb5.out.drew.alloc Hb5.out.size (.cells #[.int .i64 ky.kind,.string ky.text] 73))
              have Ho3x:=zH (t0d Ho3b.out ((Below.refl w5.heap.size w5).drew.alloc (Nat.le_refl _) (.cells #[.int .i64 ky.kind,.string ky.text] 73)) (Nat.le_refl _))
              have Ho5x:=zH (t0d Ho5.out ((Below.refl w5.heap.size w5).drew.alloc (Nat.le_refl _) (.cells #[.int .i64 ky.kind,.string ky.text] 73)) (Nat.le_refl _))
              go_upto_region 19 with (first
                | ((with_reducible refine Lex.t0w ?_);refine fE (by repeat first | exact LexK.t0t | refine LexK.t0o rfl ?_ | refine LexK.t0p (by decide +kernel) ?_ | refine LexK.t0c rfl LV.out Y4'.out ?_ | refine LexK.t0c rfl LAY.out Yk.out ?_) ?_)
                | ((with_reducible refine Lex.t0q ?_);refine LexK.t0h (fun x=>x < wd.heap.size) (by kernel_rfl) (by decide +kernel) ?_)
                | (with_reducible first | refine qH ?_ | refine LexK.t0s ?_ | refine LexK.t0v ?_)
                | ((with_reducible refine Lex.t1b ?_);first | (refine LexK.t0e hex6.out ?_) | (refine LexK.t0e hex7.out ?_) | (refine LexK.t0e (LexK.Ext.alloc _ _) ?_) | (refine LexK.t0e (LexK.Ext.refl _) ?_))
                | (at_builtin;first
                    | (refine t0n rfl (.tmp 86) (.tmp 91) 24 rfl 73 (by kernel_rfl) t2z rfl (by decide) (by decide) wd.heap.size _ w5.drew.heap.size [.int .i64 ky.kind,.string ky.text] (heap_alloc_new w5.drew _) (Nat.le_trans Hb5.out.size (by simp)) rfl (by intro u hu;simp at hu;rcases hu with rfl | rfl <;> rfl) (.slice p3 Y.length c3) Y.length (ys.take (Y.length * 2)) rfl Ho3x.out (by omega) rfl ?_;intro v6 w6 ho6 hf6;have hb6:=(hf6.below (Nat.le_trans Hb5.out.size (by simp)) (by simp) fun g hg=>(Ho3x.out.lt g hg).1);have hex6:=zH (show LexK.Ext (fun x=>x < wd.heap.size) (w5.drew.alloc (.cells #[.int .i64 ky.kind,.string ky.text] 73)) w6 from t2j hb6);have Hb6:=zH (Hwx.out.trans hb6);have Ho5c:=zH (t2m Ho5x.out Ho3x.out (by decide) hf6);obtain ⟨p6,c6,rfl⟩:=t0r ho6;have Ho6:=zH ho6;have f4x : w6.cell? ⟨bv,4,none⟩ = _:=(Hb6.out.cell (p:=⟨bv,_,none⟩) LV.out).trans Y4.out;clear ho6 hf6 hb6)
                    | (refine t0x rfl (.tmp 92) (.tmp 96) 24 rfl 73 (by kernel_rfl) t2z rfl (by decide) (by decide) wd.heap.size w6 _ (Y.length + 1) 0 _ (ys.take (Y.length * 2) ++ [.int .i64 ky.kind,.string ky.text]) [] Hb6.out.size (.slice p6 (Y.length + 1) c6) rfl rfl Ho6.out (RC.nil _ _ _) (by simp) (by omega) ?_;intro v7 w7 ho7 hf7;have hb7:=(hf7.below Hb6.out.size (by simp) fun g hg=>(Ho6.out.lt g hg).1);have hex7:=zH (show LexK.Ext (fun x=>x < wd.heap.size) w6 w7 from t2j hb7);have Hb7:=zH (Hb6.out.trans hb7);have Ho5d:=zH (t2m Ho5c.out Ho6.out (by decide) hf7);obtain ⟨p7,c7,rfl⟩:=t0r ho7;have Ho7:=zH ho7;have HA7:=zH ((Hb7.out.block _ LV.out).trans HAd.out);obtain ⟨-,hz4,-,-⟩:=t0f HA7.out;have hz5 : w7.frozen? ⟨bv,4,none⟩ = false:=(by simp [World.frozen?,HA7.out]);clear ho7 hf7 hb7)))
              have HU8:=zH (Upd.set (i:=4) (v:=.slice p7 (Y.length + 1 + 0) c7) (Upd.refl HA7.out))
              have Hb8:=zH (show Below bv wd (w7.setCell ⟨bv,4,none⟩ (.slice p7 (Y.length + 1 + 0) c7)) from (Hb7.out.mono (Nat.le_of_lt LV.out)).trans (HU8.out.below (Nat.le_refl _)))
              have Ho7e:=zH (t1r Ho7.out HU8.out LV.out)
              have Ho5e:=zH (t1r Ho5d.out HU8.out LV.out)
              have HA8:=zH (show (w7.setCell ⟨bv,4,none⟩ (.slice p7 (Y.length + 1 + 0) c7)).heap[bv]? = some (.cells #[.int .i64 8,.int .i64 0,.string ⟨#[]⟩,(.slice qk Y.length cK),(.slice p7 (Y.length + 1 + 0) c7),.slice none 0 0,.slice none 0 0] 28) from by have:=HU8.out.blk;simpa using this)
              have Hcx:=zH (fun (a o : Nat) (z : Value) (ha : a < bv) (h : wd.cell? ⟨a,o,none⟩ = some z)=>(Hb8.out.cell (p:=⟨a,o,none⟩) ha).trans h)
              have HDK8:=zH (show RC (w7.setCell ⟨bv,4,none⟩ (.slice p7 (Y.length + 1 + 0) c7)) 7 none 0 [] from RC.nil _ _ _)
              clear f0 f1 f2 f3 f4 f5 f6 m0 m1 hz4 hz5
              generalize w7.setCell ⟨bv,4,none⟩ (.slice p7 (Y.length + 1 + 0) c7) = w8 at *
              obtain ⟨⟨f0,f1,f2,f3⟩,f4,f5,f6⟩:=t0f HA8.out
              have hax2 : ax < bv:=Nat.lt_of_lt_of_le Hax.out (Nat.le_trans (Nat.le_of_lt hlC) Hsr.out)
              have LAX:=zH (show ax < wd.heap.size from Nat.lt_trans hax2 LV.out)
              have x0':=Hcx.out ax _ _ hax2 (t0b Hbd.out cx0)
              have x1':=Hcx.out ax _ _ hax2 (t0b Hbd.out cx1)
              have x2':=Hcx.out ax _ _ hax2 (t0b Hbd.out cx2)
              have x3':=Hcx.out ax _ _ hax2 (t0b Hbd.out cx3)
              have x4':=Hcx.out ax _ _ hax2 (t0b Hbd.out cx4)
              have x5':=Hcx.out ax _ _ hax2 (t0b Hbd.out cx5)
              have x6':=Hcx.out ax _ _ hax2 (t0b Hbd.out cx6)
              have Yx:=zH (show w8.drew.cell? ⟨ax,ox + i * 7,none⟩ = _ from x0')
              have Y3x:=zH (show w8.drew.cell? ⟨bv,3,none⟩ = _ from f3)
              have Hs8:=zH (show wd.heap.size ≤ w8.heap.size from Hb8.out.size)
              have Hox:=zH (HX.out.one)
              have Ho5g:=zH (t0d Ho5e.out ((Below.refl w8.heap.size w8).drew.alloc (Nat.le_refl _) (.cells #[.int .i64 x.kind,.int .i64 x.num,.string x.text,.slice x1 x.kids.length x2,.slice x3 x.keys.length x4,.slice x5 x.ents.length x6,.slice x7 x.labels.length x8] 28)) (Nat.le_refl _))
              have Ho7g:=zH (t0d Ho7e.out ((Below.refl w8.heap.size w8).drew.alloc (Nat.le_refl _) (.cells #[.int .i64 x.kind,.int .i64 x.num,.string x.text,.slice x1 x.kids.length x2,.slice x3 x.keys.length x4,.slice x5 x.ents.length x6,.slice x7 x.labels.length x8] 28)) (Nat.le_refl _))
              have Hw8x:=zH ((Below.refl w8.heap.size w8).drew.alloc (Nat.le_refl _) (.cells #[.int .i64 x.kind,.int .i64 x.num,.string x.text,.slice x1 x.kids.length x2,.slice x3 x.keys.length x4,.slice x5 x.ents.length x6,.slice x7 x.labels.length x8] 28))
              go_upto_region 11 with (first
                | ((with_reducible refine Lex.t0w ?_);refine fE (by repeat first | exact LexK.t0t | refine LexK.t0o rfl ?_ | refine LexK.t0p (by decide +kernel) ?_ | refine LexK.t0c rfl LV.out Y3x.out ?_ | refine LexK.t0c rfl LAX.out Yx.out ?_) ?_)
                | ((with_reducible refine Lex.t0q ?_);refine LexK.t0h (fun x=>x < wd.heap.size) (by kernel_rfl) (by decide +kernel) ?_)
                | (with_reducible first | refine qH ?_ | refine LexK.t0s ?_ | refine LexK.t0v ?_)
                | ((with_reducible refine Lex.t1b ?_);first | (refine LexK.t0e hex9.out ?_) | (refine LexK.t0e hexA.out ?_) | (refine LexK.t0e (LexK.Ext.alloc _ _) ?_) | (refine LexK.t0e (LexK.Ext.refl _) ?_))
                | (at_builtin;first
                    | (refine t0n rfl (.tmp 99) (.tmp 104) 23 rfl 28 (by kernel_rfl) t1w rfl (by decide) (by decide) wd.heap.size _ w8.drew.heap.size [.int .i64 x.kind,.int .i64 x.num,.string x.text,.slice x1 x.kids.length x2,.slice x3 x.keys.length x4,.slice x5 x.ents.length x6,.slice x7 x.labels.length x8] (heap_alloc_new w8.drew _) (Nat.le_trans Hs8.out (by simp)) rfl Hox.out (.slice p5 Y.length c5) Y.length (xs.take (Y.length * 7)) rfl Ho5g.out (by omega) rfl ?_;intro v9 w9 ho9 hf9;have hb9:=(hf9.below (Nat.le_trans Hs8.out (by simp)) (by simp) fun g hg=>(Ho5g.out.lt g hg).1);have hex9:=zH (show LexK.Ext (fun x=>x < wd.heap.size) (w8.drew.alloc (.cells #[.int .i64 x.kind,.int .i64 x.num,.string x.text,.slice x1 x.kids.length x2,.slice x3 x.keys.length x4,.slice x5 x.ents.length x6,.slice x7 x.labels.length x8] 28)) w9 from t2j hb9);have Hb9x:=zH (show Below wd.heap.size w8 w9 from (Hw8x.out.mono Hs8.out).trans hb9);have Ho7h:=zH (t2m Ho7g.out Ho5g.out (by decide) hf9);obtain ⟨p9,c9,rfl⟩:=t0r ho9;have Ho9:=zH ho9;have f3x : w9.cell? ⟨bv,3,none⟩ = _:=(Hb9x.out.cell (p:=⟨bv,_,none⟩) LV.out).trans f3;clear ho9 hf9 hb9)
                    | (refine t0x rfl (.tmp 105) (.tmp 109) 23 rfl 28 (by kernel_rfl) t1w rfl (by decide) (by decide) wd.heap.size w9 _ (Y.length + 1) 0 _ (xs.take (Y.length * 7) ++ [.int .i64 x.kind,.int .i64 x.num,.string x.text,.slice x1 x.kids.length x2,.slice x3 x.keys.length x4,.slice x5 x.ents.length x6,.slice x7 x.labels.length x8]) [] (Nat.le_trans Hs8.out Hb9x.out.size) (.slice p9 (Y.length + 1) c9) rfl rfl Ho9.out (RC.nil _ _ _) (by simp) (by omega) ?_;intro vA wA' hoA hfA;have hbA:=(hfA.below (Nat.le_trans Hs8.out Hb9x.out.size) (by simp) fun g hg=>(Ho9.out.lt g hg).1);have hexA:=zH (show LexK.Ext (fun x=>x < wd.heap.size) w9 wA' from t2j hbA);have HbA':=zH (Hb9x.out.trans hbA);have Ho7k:=zH (t2m Ho7h.out Ho9.out (by decide) hfA);obtain ⟨pA,cA,rfl⟩:=t0r hoA;have HoA:=zH hoA;have HAA:=zH ((HbA'.out.block _ LV.out).trans HA8.out);obtain ⟨⟨-,-,-,hz3⟩,-,-,-⟩:=t0f HAA.out;have hz5 : wA'.frozen? ⟨bv,3,none⟩ = false:=(by simp [World.frozen?,HAA.out]);clear hoA hfA hbA)))
              have HUB:=zH (Upd.set (i:=3) (v:=.slice pA (Y.length + 1 + 0) cA) (Upd.refl HAA.out))
              have hbB : Below bv wd (wA'.setCell ⟨bv,3,none⟩ (.slice pA (Y.length + 1 + 0) cA)):=Hb8.out.trans ((HbA'.out.mono (Nat.le_of_lt LV.out)).trans (HUB.out.below (Nat.le_refl _)))
              have hoY':=t2c (t1r Ho7k.out HUB.out LV.out) (B':=bv + 1) LV.out
              have hoK':=t2c (t1r HoA.out HUB.out LV.out) (B':=bv + 1) LV.out
              have hAB : (wA'.setCell ⟨bv,3,none⟩ (.slice pA (Y.length + 1 + 0) cA)).heap[bv]? = some (.cells #[.int .i64 8,.int .i64 0,.string ⟨#[]⟩,(.slice pA (Y.length + 1 + 0) cA),(.slice p7 (Y.length + 1 + 0) c7),.slice none 0 0,.slice none 0 0] 28):=by have:=HUB.out.blk;simpa using this
              clear f0 f1 f2 f3 f4 f5 f6 hz3
              generalize wA'.setCell ⟨bv,3,none⟩ (.slice pA (Y.length + 1 + 0) cA) = wB at *
              have lY : (Y.take Y.length ++ [ky] ++ Y.drop Y.length).length = Y.length + 1 + 0:=by rw [List.length_append,List.length_append,List.length_take,List.length_drop,List.length_singleton];omega
              have lK : (K.take Y.length ++ [x] ++ K.drop Y.length).length = Y.length + 1 + 0:=by rw [List.length_append,List.length_append,List.length_take,List.length_drop,List.length_singleton];have:=HYK.out;omega
              have hsm : ((K.take Y.length ++ [x] ++ K.drop Y.length).map VV.nodes).sum = ((l.take (i + 1)).map VV.nodes).sum:=by
                rw [Hsum1.out,← Hsum.out]
                conv=>rhs;rw [← List.take_append_drop Y.length K]
                simp only [List.map_append,List.sum_append,List.map_cons,List.map_nil,List.sum_cons,List.sum_nil]
                omega
              go_wp2
              refine ⟨⟨i + 1,K.take Y.length ++ [x] ++ K.drop Y.length,Y.take Y.length ++ [ky] ++ Y.drop Y.length,xs.take (Y.length * 7) ++ [.int .i64 x.kind,.int .i64 x.num,.string x.text,.slice x1 x.kids.length x2,.slice x3 x.keys.length x4,.slice x5 x.ents.length x6,.slice x7 x.labels.length x8] ++ [],ys.take (Y.length * 2) ++ [.int .i64 ky.kind,.string ky.text] ++ [],_,_,by go_num,by omega,by rw [lK];have:=HYi.out;omega,by rw [lY];have:=HYi.out;omega,hsm,hAB,by rw [lK];exact hoK',?_,by rw [lY];exact hoY',?_,Hbr.out.trans ((Hbd.out.mono Hbr.out.size).trans (hbB.mono Hsr.out))⟩,by simp [intOf];omega⟩
              · have hz:=HcDK.out
                have ez : xs.drop (Y.length * 7) = []:=List.drop_eq_nil_of_le (by rw [HlK.out];exact Nat.le_refl _)
                rw [ez] at hz
                exact (HcTK.out.append (Ch.single rfl HXb.out)).append hz
              · have hz:=HcDY.out
                have ez : ys.drop (Y.length * 2) = []:=List.drop_eq_nil_of_le (by rw [HlY.out];exact Nat.le_refl _)
                rw [ez] at hz
                exact (HcTY.out.append (Ch.single rfl rfl)).append hz
        · have d9 : decide (i < keys.length) = false:=by simp;omega
          have hil : l.take i = l:=List.take_of_length_le (by have:=Hlen.out;omega)
          obtain ⟨⟨f0,f1,f2,f3⟩,f4,f5,f6⟩:=t0f HAr.out
          have hC:=(Hbr.out.block _ hlC).trans HC.out
          go_wp2_with (with_reducible refine wpList_store_row rfl 28 (.tmp 4) (.tmp 112) rfl _ _ rfl rfl _ _ hC (by kernel_rfl) (by kernel_rfl) (by kernel_rfl) ?_)
          refine bodyPost_ret (t1a rfl _ _ w.heap.size 28 _ (0,0) _ rfl (setRow_heap _ _ _ _ _ _ hC) rfl rfl (by kernel_rfl)) rfl ?_
          have hO : Old (ex E w.heap.size) (bv + 1):=t3e (HE.out.mono (by have:=Hsr.out;omega)) (by have:=Hsr.out;omega)
          obtain ⟨pk,ck,ek,hrk⟩:=t1o (t1q (by rw [← HYK.out] at *;exact HoK.out) hO) (HcK.out.mono fun x cs _ h=>h.below (t4q Hbw.out (Nat.le_refl _))) (by have:=HYK.out;omega)
          obtain ⟨py,cy,ey,hry⟩:=t1o (t1q HoY.out hO) HcY.out (by omega)
          injection ek with ek1 _ ek3
          injection ey with ey1 _ ey3
          subst ek1 ek3 ey1 ey3
          refine ⟨_,.mk 8 0 t0u K Y [] [],0,rfl,t7r (x:=w.heap.size) ⟨d + 1,_,rfl,qk,cK,qy,cY,none,0,none,0,congrArg (fun n : Nat=>([.int .i64 8,.int .i64 0,.string ⟨#[]⟩,.slice qk n cK,.slice qy Y.length cY,.slice none 0 0,.slice none 0 0] : List Value)) HYK.out,hrk,hry,Rw.nil _ _ _ _ _,Rw.nil _ _ _ _ _⟩ _,?_,rfl,t1c Hbw.out (Nat.le_refl _)⟩
          rw [VV.nodes,t2b,Hsum.out,hil]
          simp [nodesEs]
end Go.Proofs.YtjgldaaofdpcgaaGreat
