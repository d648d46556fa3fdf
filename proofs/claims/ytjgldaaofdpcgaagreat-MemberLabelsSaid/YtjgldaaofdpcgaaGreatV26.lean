/- Walks and plain facts for the laws of membership, for all values and types that the heap holds (texts W2 W3 A1). -/
import Derived.Test.YtjgldaaofdpcgaaGreatV03
import Derived.Test.YtjgldaaofdpcgaaGreatV19
import Derived.Test.YtjgldaaofdpcgaaGreatV25
set_option linter.unusedVariables false
set_option linter.unusedSimpArgs false
namespace Go.Proofs.YtjgldaaofdpcgaaGreat
open Go.RowKit Go.Ident
set_option maxRecDepth 100000
theorem tdp (p : Option Addr) (l c : Nat) (w : World) : (binOp .eql 22 (.slice p l c) (.slice none 0 0)).run Tryz.prog w = .ok (.bool p.isNone) w:=by
  cases p <;> simp [binOp,Op.equal,Op.equalIn,run_underlying (show Tryz.prog.underlying 22 = some (.slice 3) by kernel_rfl)] <;> rfl
theorem t4y : (Tryz.prog.info? 3).map (fun i=>(i.zero,i.size,i.bytes)) = some (some (.int .i64 0),1,8):=by kernel_rfl
theorem tg0 (p : Option Addr) (n c : Nat) (cs : List Value) (w : World) (hr : RC w 1 p n cs) (h1 : ∀ u ∈ cs,u.oneCell' = true) (hn : n ≤ 1048576) :
    Calls Tryz.prog 89 #[.slice p n c] w fun e w'=>∃ v',e = .returned v' ∧ w'.ownsRow w.heap.size 3 1 v' n cs ∧ Below w.heap.size w w':=by
  cases p with
  | none =>
    have hn0 : n = 0:=by
      rcases Nat.eq_zero_or_pos n with h | h
      · exact h
      · obtain ⟨_,_,e,_⟩:=hr.2 h;cases e
    subst hn0
    have hcs : cs = []:=List.length_eq_zero_iff.1 (by have:=hr.1;omega)
    subst hcs
    have he:=tdp none 0 c
    rw [show (none : Option Addr).isNone = true from rfl] at he
    clear hr h1
    go_enter Tryz.func89,Tryz.ntmps89
    go_wp2
    go_ret
    exact ⟨_,rfl,World.ownsRow_nil _ _ _ _,Below.refl _ _⟩
  | some ad =>
    have hal:=(Below.refl w.heap.size w).alloc (Nat.le_refl _) (.cells #[] 3)
    have hown : (w.alloc (.cells #[] 3)).ownsRow w.heap.size 3 1 (.slice (some ⟨w.heap.size,0,none⟩) 0 0) 0 [] :=
      ⟨rfl,.inr ⟨w.heap.size,0,#[],rfl,Nat.le_refl _,heap_alloc_new _ _,Nat.le_refl _,by decide,rfl,rfl⟩⟩
    have Hr:=zH (hr.below hal)
    have Hal:=zH hal;have Hown:=zH hown;have H1:=zH h1
    have hsz:=hal.size
    clear hr hal hown h1
    have he:=tdp (some ad) n c
    rw [show (some ad).isNone = false from rfl] at he
    have hl0 : (0 : Nat) + n ≤ 67108864:=by omega
    go_enter Tryz.func89,Tryz.ntmps89
    go_wp2_with (first
      | (at_builtin;go_loud (refine t0s rfl (.tmp 5) (.tmp 6) 22 rfl 3 (by kernel_rfl) t4y rfl (by decide) (by decide) w.heap.size _ (some ad) 0 n c [] cs hsz (.slice (some ⟨w.heap.size,0,none⟩) 0 0) rfl rfl Hown.out Hr.out H1.out hl0 ?_);intro v' w' ho hf;have Ho:=zH ho;have Hbe:=zH (hf.below hsz (by simp) (fun g hg=>by simp [Value.ownBlock] at hg;omega));clear ho hf))
    go_ret
    exact ⟨_,rfl,by have:=Ho.out;rwa [Nat.zero_add,List.nil_append] at this,Hal.out.trans Hbe.out⟩
end Go.Proofs.YtjgldaaofdpcgaaGreat
namespace Go.Proofs.YtjgldaaofdpcgaaGreat
open Go.RowKit Go.Ident
set_option maxRecDepth 100000
theorem tdq (xs ys : List Int) : ic (xs ++ ys) = ic xs ++ ic ys:=by simp [ic]
set_option maxHeartbeats 16000000 in
theorem th6 (n : TN) (w : World) (cs : List Value) (h : NC w n cs) (hn : n.kids.length ≤ 1048576 ∧ n.fields.length ≤ 1048576) : Calls Tryz.prog 53 #[.agg cs.toArray] w fun e w'=>∃ v',e = .returned v' ∧ IS w' v' (t1t n) ∧ Below w.heap.size w w':=by
  obtain ⟨p1,c1,p2,c2,rfl,⟨_,_,e8,hkc,hkr⟩,hF⟩:=h
  injection e8 with e81 _ e83
  subst e81 e83
  have HF:=zH hF
  have hL:=hF.big
  clear hF
  go_enter Tryz.func53,Tryz.ntmps53
  go_upto_region 1 with fail
  have hA:=heap_alloc_new w (.cells #[.int .i64 n.kind,.int .i64 n.lo,.int .i64 n.hi,.string n.text,.slice p1 n.kids.length c1,.slice p2 n.fields.length c2,.int .i64 n.rest0,.int .i64 n.rest1] 48)
  have hb : Below w.heap.size w (w.alloc (.cells #[.int .i64 n.kind,.int .i64 n.lo,.int .i64 n.hi,.string n.text,.slice p1 n.kids.length c1,.slice p2 n.fields.length c2,.int .i64 n.rest0,.int .i64 n.rest1] 48)):=(Below.refl _ _).alloc (Nat.le_refl _) _
  generalize w.alloc (.cells #[.int .i64 n.kind,.int .i64 n.lo,.int .i64 n.hi,.string n.text,.slice p1 n.kids.length c1,.slice p2 n.fields.length c2,.int .i64 n.rest0,.int .i64 n.rest1] 48) = w2 at *
  have Hb:=zH hb
  obtain ⟨⟨f0,f1,f2,f3⟩,f4,f5,f6,f7⟩:=t1f hA
  have HA:=zH hA
  have hlA:=t0b hA
  have Hcl:=zH (tg0 p1 n.kids.length c1 (ic n.kids) w2 (hkr.below hb) (tgf _) (by omega))
  clear hA hb hkr hkc
  go_wp2_with (go_at_call 89;refine Hcl.out.mono ?_;rintro e w3 ⟨v1,rfl,ho,q⟩;have Ho:=zH ho;have Hq3:=zH q;have Hb3:=zH (Hb.out.step q);clear q ho;clear f0 f1 f2 f3 f4 f5 f6 f7;have HA3:=zH ((Hq3.out.block _ hlA).trans HA.out);obtain ⟨⟨f0,f1,f2,f3⟩,f4,f5,f6,f7⟩:=t1f HA3.out)
  clear f0 f1 f2 f3 f4 f5 f6 f7
  go_loopw [12,3] (fun i ov wr=>∃ k : Nat,i = .int .i64 k ∧ k ≤ n.fields.length ∧ wr.ownsRow w2.heap.size 3 1 ov (n.kids ++ (n.fields.take k).map FF.node).length (ic (n.kids ++ (n.fields.take k).map FF.node)) ∧ Below w2.heap.size w2 wr) (fun i _ _=>n.fields.length - (intOf i).toNat)
  case atStart=>exact ⟨0,rfl,by omega,by simpa using Ho.out,Hq3.out⟩
  case round =>
    obtain ⟨k,rfl,hk,ho,hb⟩:=hrel
    have Hor:=zH ho;have Hbr:=zH hb;have Hbw:=zH (Hb.out.step hb);clear ho hb
    have hlen : (n.kids ++ (n.fields.take k).map FF.node).length ≤ 2097152:=by simp;omega
    obtain ⟨pv,cv,rfl⟩:=t0m Hor.out
    by_cases hlt : k < n.fields.length
    · obtain ⟨ak,ok,cs,rfl,hab,-,hrg,hP⟩:=HF.out.all hlt
      have hrg:=hrg wr Hbw.out
      unfold FC at hP
      subst hP
      have z0:=hrg 0 _ rfl
      have z1:=hrg 1 _ rfl
      have z2:=hrg 2 _ rfl
      have z3:=hrg 3 _ rfl
      rw [Nat.add_zero] at z0
      have hM1 : n.kids ++ (n.fields.take (k + 1)).map FF.node = (n.kids ++ (n.fields.take k).map FF.node) ++ [n.fields[k].node]:=by rw [List.take_succ_eq_append_getElem hlt,List.map_append,List.append_assoc];rfl
      have HM1:=zH hM1
      clear hrg hM1
      generalize n.kids ++ (n.fields.take k).map FF.node = M at *
      generalize n.fields[k] = x at *
      obtain ⟨wo,hwo⟩ : ∃ wo : World,wo = wr:=⟨_,rfl⟩
      subst hwo
      go_upto_region 5 with fail
      have hnew:=heap_alloc_new wo (.cells #[.int .i64 x.key.kind,.string x.key.text,.int .i64 x.node,.bool x.opt] 75)
      have ho : Below wo.heap.size wo (wo.alloc (.cells #[.int .i64 x.key.kind,.string x.key.text,.int .i64 x.node,.bool x.opt] 75)):=(Below.refl _ _).alloc (Nat.le_refl _) _
      generalize wo.alloc (.cells #[.int .i64 x.key.kind,.string x.key.text,.int .i64 x.node,.bool x.opt] 75) = w5 at *
      have hB5 : w2.heap.size ≤ w5.heap.size:=Nat.le_trans Hbr.out.size ho.size
      have Ho5:=zH (t0d Hor.out ho (Nat.le_refl _))
      have Hbb5:=zH (Hbr.out.trans (ho.mono Hbr.out.size))
      obtain ⟨g0,g1,g2,g3⟩ : w5.cell? ⟨wo.heap.size,0,none⟩ = some (.int .i64 x.key.kind) ∧ w5.cell? ⟨wo.heap.size,1,none⟩ = some (.string x.key.text) ∧ w5.cell? ⟨wo.heap.size,2,none⟩ = some (.int .i64 x.node) ∧ w5.cell? ⟨wo.heap.size,3,none⟩ = some (.bool x.opt):=by simp [World.cell?,hnew]
      clear z0 z1 z2 z3 hnew ho
      go_wp2_with (at_builtin;go_loud (refine t0k rfl (.tmp 16) (.tmp 19) 22 rfl 3 (by kernel_rfl) t4y rfl (by decide) (by decide) w2.heap.size _ w5.heap.size [.int .i64 x.node] (heap_alloc_new w5 _) (Nat.le_trans hB5 (by simp)) rfl (by simp [Value.oneCell']) (.slice pv M.length cv) M.length (ic M) rfl (t0d Ho5.out ((Below.refl _ _).alloc (Nat.le_refl _) _) (Nat.le_refl _)) (by omega) rfl ?_);intro v8 w8 ho8 hf8;have Ho8:=zH ho8;have Hbb8:=zH ((Hbb5.out.alloc hB5 _).trans (hf8.below (Nat.le_trans hB5 (by simp)) (by simp) fun g hg=>(Ho5.out.lt g hg).1));clear ho8 hf8)
      refine ⟨⟨k + 1,by go_num,by omega,?_,Hbb8.out⟩,by simp [intOf];omega⟩
      rw [HM1.out,tdq,List.length_append];exact Ho8.out
    · obtain rfl : k = n.fields.length:=by omega
      rw [List.take_length] at Hor hlen
      rw [List.take_length]
      generalize hM : n.kids ++ n.fields.map FF.node = M at *
      have hE : t1t n = M ++ if n.kind = 13 then [n.rest0,n.rest1] else []:=by rw [← hM];unfold t1t;rw [List.append_assoc]
      have HE:=zH hE
      clear hM hE
      obtain ⟨⟨f0,f1,f2,f3⟩,f4,f5,f6,f7⟩:=t1f ((Hbr.out.block _ hlA).trans HA.out)
      by_cases h13 : n.kind = 13
      · have d0 : (n.kind == 13) = true:=by simp [h13]
        have HE2:=zH (show t1t n = M ++ [n.rest0,n.rest1] by rw [HE.out,if_pos h13])
        clear h13
        have hB4:=Hbr.out.size
        have hr2 : RC (wr.alloc (.cells #[.int .i64 n.rest0,.int .i64 n.rest1] 3)) 1 (some ⟨wr.heap.size,0,none⟩) 2 (ic [n.rest0,n.rest1]):=RC.row rfl (heap_alloc_new wr _) (fun j u hu=>by simpa [ic] using hu)
        have Hr2:=zH hr2
        clear hr2
        go_wp2_with (at_builtin;go_loud (refine t0s rfl (.tmp 25) (.tmp 32) 22 rfl 3 (by kernel_rfl) t4y rfl (by decide) (by decide) w2.heap.size _ (some ⟨wr.heap.size,0,none⟩) M.length 2 2 (ic M) (ic [n.rest0,n.rest1]) (Nat.le_trans hB4 (by simp)) (.slice pv M.length cv) rfl rfl (t0d Hor.out ((Below.refl _ _).alloc (Nat.le_refl _) _) (Nat.le_refl _)) Hr2.out (tgf _) (by omega) ?_);intro v8 w8 ho8 hf8;have Ho8:=zH ho8;have Hbb8:=zH (Hb.out.step ((Hbr.out.alloc hB4 _).trans (hf8.below (Nat.le_trans hB4 (by simp)) (by simp) fun g hg=>(Hor.out.lt g hg).1)));clear ho8 hf8)
        go_ret
        refine ⟨_,rfl,?_,Hbb8.out⟩
        rw [HE2.out]
        obtain ⟨pz,cz,rfl⟩:=t0m Ho8.out
        have hz : (M ++ [n.rest0,n.rest1]).length = M.length + 2:=by simp
        exact ⟨pz,cz,by rw [hz];rfl,by rw [hz];exact t3y Ho8.out,by rw [hz,tdq];exact RC.of_own Ho8.out⟩
      · have d0 : (n.kind == 13) = false:=by simp [h13]
        have HE2:=zH (show t1t n = M by rw [HE.out,if_neg h13];simp)
        clear h13
        go_wp2
        go_ret
        exact ⟨_,rfl,by rw [HE2.out];exact ⟨pv,cv,rfl,t3y Hor.out,RC.of_own Hor.out⟩,Hbw.out⟩
end Go.Proofs.YtjgldaaofdpcgaaGreat
namespace Go.Proofs.YtjgldaaofdpcgaaGreat
open Go.RowKit Go.Ident
set_option maxRecDepth 100000
theorem th7 (S : SD) : ∀ (n : Nat) (h : Int),h.toNat ≤ n → h ≤ 9223372036854775807 → GB (10 ^ n) 12 S h:=by
  intro n
  induction n with
  | zero =>
    intro h hn hh
    refine tbb S h _ ?_
    intro w hS
    refine (tfz S h w hS (by omega)).mono ?_
    rintro e w' ⟨v,V,h1,h2,h3,h4⟩
    exact ⟨v,V,h1,h2,by show V.nodes ≤ 10 ^ 0;simpa using h3,h4⟩
  | succ n ih =>
    intro h hn hh
    refine tbb S h _ ?_
    have hp : 1 ≤ 10 ^ n:=Nat.one_le_pow _ _ (by decide)
    have:=tbe S h (10 ^ n) hp hh (fun g=>ih (h - 1) (by omega) (by omega)) (fun g=>ih (h - 2) (by omega) (by omega))
    rwa [Nat.pow_succ,Nat.mul_comm]
def IR' (many : Nat) (f n : Int) (S : SD) (w : World) (e : Ending) (w' : World) : Prop:=∃ v l,e = .returned v ∧ IS (we (lo w.heap.size) w') v l ∧ l.length = many ∧ (∀ k ∈ l,f ≤ k ∧ k < n) ∧ SR S w w'
theorem tjy {w : World} {B B' : Nat} {v : Value} {l : List Int} (h : w.ownsRow B 3 1 v l.length (ic l)) (hB : B' ≤ B) : IS (we (lo B') w) v l:=by
  have h2:=t1o h ((t1g B').mono hB)
  obtain ⟨p,c,rfl⟩:=t0m h
  exact ⟨p,c,rfl,t3y h2,RC.of_own h2⟩
set_option maxHeartbeats 16000000 in
theorem t2o (S : SD) (many : Nat) (f n : Int) (w : World) (hS : SRC S w) (hm : many ≤ 1000) (hf : 0 ≤ f) (hfn : f < n) (hn : n ≤ 1000) : Calls Tryz.prog 73 #[.pointer (some ⟨S.b,0,none⟩),.int .i64 (many : Int),.int .i64 f,.int .i64 n] w (IR' many f n S w):=by
  have HS:=zH hS
  have hltS:=hS.lt
  clear hS
  go_enter Tryz.func73,Tryz.ntmps73
  go_wp2
  go_loopw [1,9] (fun nv ov wr=>∃ (m : Nat) (l : List Int),nv = .int .i64 (m : Int) ∧ m + l.length = many ∧ wr.ownsRow w.heap.size 3 1 ov l.length (ic l) ∧ (∀ k ∈ l,f ≤ k ∧ k < n) ∧ SR S w wr) (fun nv _ _=>(intOf nv).toNat)
  case atStart=>exact ⟨many,[],rfl,by simp,World.ownsRow_nil _ _ _ _,fun k hk=>by simp at hk,SR.refl HS.out⟩
  case round =>
    obtain ⟨m,l,rfl,hml,ho,hk,hsr⟩:=hrel
    obtain ⟨pa,ca,rfl⟩:=t0m ho
    have Ho:=zH ho;have Hk:=zH hk;have Hsr:=zH hsr
    have hsz:=hsr.size
    clear ho hk hsr
    by_cases hm0 : 0 < m
    · have d9 : decide (0 < m) = true:=by simp [hm0]
      obtain ⟨wq,hwq⟩ : ∃ wq : World,wq = wr:=⟨_,rfl⟩
      subst hwq
      go_wp2_with (first
        | (go_at_call 24;refine (t1a S (n - f) wq Hsr.out.src (by omega)).mono ?_;rintro e w5 ⟨y,rfl,hs,h0,h1,-⟩;have h1:=h1 (by omega);have Hs5:=zH hs;have Ho5:=zH (hs.owns Ho.out (by omega));have hw5 : w.heap.size ≤ w5.heap.size:=(Nat.le_trans hsz hs.size);clear hs)
        | (at_builtin;(refine t0k rfl (.tmp 14) (.tmp 22) 22 rfl 3 (by kernel_rfl) t4y rfl (by decide) (by decide) w.heap.size _ w5.heap.size [.int .i64 (f + y)] (heap_alloc_new w5 _) (Nat.le_trans hw5 (by simp)) rfl (by intro u hu;simp at hu;subst hu;rfl) (.slice pa l.length ca) l.length (ic l) rfl (t0d Ho5.out ((Below.refl _ _).alloc (Nat.le_refl _) _) (Nat.le_refl _)) (by omega) rfl ?_);intro v7 w7 ho7 hf7;have Hb7:=zH (((Below.refl w5.heap.size w5).alloc (Nat.le_refl _) (.cells #[.int .i64 (f + y)] 3)).mono hw5 |>.trans (hf7.below (Nat.le_trans hw5 (by simp)) (by simp) fun g hg=>(Ho5.out.lt g hg).1));have Ho7:=zH ho7;clear ho7 hf7))
      refine ⟨⟨m - 1,l ++ [f + y],by first | rfl | (congr 1;omega) | (congr 1),by simp;omega,by rw [List.length_append,tdq];exact Ho7.out,fun k hk=>?_,(Hsr.out.trans Hs5.out).app Hb7.out⟩,by simp [intOf];omega⟩
      rcases List.mem_append.1 hk with hk | hk
      · exact Hk.out k hk
      · rw [List.mem_singleton.1 hk];omega
    · have d9 : decide (0 < m) = false:=by simp;omega
      go_wp2
      go_ret
      exact ⟨_,l,rfl,tjy Ho.out (Nat.le_refl _),by omega,Hk.out,Hsr.out⟩
end Go.Proofs.YtjgldaaofdpcgaaGreat
