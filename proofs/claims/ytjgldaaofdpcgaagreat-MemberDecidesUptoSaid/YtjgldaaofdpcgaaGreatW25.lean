/- Walks and plain facts for the laws of membership, for all values and types that the heap holds (texts W2 W3 A1 A2). -/
import Derived.Test.YtjgldaaofdpcgaaGreatW03
import Derived.Test.YtjgldaaofdpcgaaGreatW18
import Derived.Test.YtjgldaaofdpcgaaGreatW24
set_option linter.unusedVariables false
set_option linter.unusedSimpArgs false
namespace Go.Proofs.YtjgldaaofdpcgaaGreat
open Go.RowKit Go.Ident
set_option maxRecDepth 100000
theorem tdu (p : Option Addr) (l c : Nat) (w : World) : (binOp .eql 22 (.slice p l c) (.slice none 0 0)).run Tryz.prog w = .ok (.bool p.isNone) w:=by
  cases p <;> simp [binOp,Op.equal,Op.equalIn,run_underlying (show Tryz.prog.underlying 22 = some (.slice 3) by kernel_rfl)] <;> rfl
theorem t4h : (Tryz.prog.info? 3).map (fun i=>(i.zero,i.size,i.bytes)) = some (some (.int .i64 0),1,8):=by kernel_rfl
theorem tfw (p : Option Addr) (n c : Nat) (cs : List Value) (w : World) (hr : RC w 1 p n cs) (h1 : ∀ u ∈ cs,u.oneCell' = true) (hn : n ≤ 1048576) :
    Calls Tryz.prog 89 #[.slice p n c] w fun e w'=>∃ v',e = .returned v' ∧ w'.ownsRow w.heap.size 3 1 v' n cs ∧ Below w.heap.size w w':=by
  cases p with
  | none =>
    have hn0 : n = 0:=by
      rcases Nat.eq_zero_or_pos n with h | h
      · exact h
      · obtain ⟨_,_,e,_⟩:=hr.2 h;cases e
    subst hn0
    have hcs : cs = []:=List.length_eq_zero_iff.1 (by have:=hr.1;omega)
    subst hcs
    have he:=tdu none 0 c
    rw [show (none : Option Addr).isNone = true from rfl] at he
    clear hr h1
    go_enter Tryz.func89,Tryz.ntmps89
    go_wp2
    go_ret
    exact ⟨_,rfl,World.ownsRow_nil _ _ _ _,Below.refl _ _⟩
  | some ad =>
    have hal:=(Below.refl w.heap.size w).alloc (Nat.le_refl _) (.cells #[] 3)
    have hown : (w.alloc (.cells #[] 3)).ownsRow w.heap.size 3 1 (.slice (some ⟨w.heap.size,0,none⟩) 0 0) 0 [] :=
      ⟨rfl,.inr ⟨w.heap.size,0,#[],rfl,Nat.le_refl _,heap_alloc_new _ _,Nat.le_refl _,by decide,rfl,rfl⟩⟩
    have Hr:=zH (hr.below hal)
    have Hal:=zH hal;have Hown:=zH hown;have H1:=zH h1
    have hsz:=hal.size
    clear hr hal hown h1
    have he:=tdu (some ad) n c
    rw [show (some ad).isNone = false from rfl] at he
    have hl0 : (0 : Nat) + n ≤ 67108864:=by omega
    go_enter Tryz.func89,Tryz.ntmps89
    go_wp2_with (first
      | (at_builtin;go_loud (refine t0x rfl (.tmp 5) (.tmp 6) 22 rfl 3 (by kernel_rfl) t4h rfl (by decide) (by decide) w.heap.size _ (some ad) 0 n c [] cs hsz (.slice (some ⟨w.heap.size,0,none⟩) 0 0) rfl rfl Hown.out Hr.out H1.out hl0 ?_);intro v' w' ho hf;have Ho:=zH ho;have Hbe:=zH (hf.below hsz (by simp) (fun g hg=>by simp [Value.ownBlock] at hg;omega));clear ho hf))
    go_ret
    exact ⟨_,rfl,by have:=Ho.out;rwa [Nat.zero_add,List.nil_append] at this,Hal.out.trans Hbe.out⟩
end Go.Proofs.YtjgldaaofdpcgaaGreat
namespace Go.Proofs.YtjgldaaofdpcgaaGreat
open Go.RowKit Go.Ident
set_option maxRecDepth 100000
theorem tdv (xs ys : List Int) : ic (xs ++ ys) = ic xs ++ ic ys:=by simp [ic]
set_option maxHeartbeats 16000000 in
theorem th1 (n : TN) (w : World) (cs : List Value) (h : NC w n cs) (hn : n.kids.length ≤ 1048576 ∧ n.fields.length ≤ 1048576) : Calls Tryz.prog 53 #[.agg cs.toArray] w fun e w'=>∃ v',e = .returned v' ∧ IS w' v' (t1u n) ∧ Below w.heap.size w w':=by
  obtain ⟨p1,c1,p2,c2,rfl,⟨_,_,e8,hkc,hkr⟩,hF⟩:=h
  injection e8 with e81 _ e83
  subst e81 e83
  have HF:=zH hF
  have hL:=hF.big
  clear hF
  go_enter Tryz.func53,Tryz.ntmps53
  go_upto_region 1 with fail
  have hA:=heap_alloc_new w (.cells #[.int .i64 n.kind,.int .i64 n.lo,.int .i64 n.hi,.string n.text,.slice p1 n.kids.length c1,.slice p2 n.fields.length c2,.int .i64 n.rest0,.int .i64 n.rest1] 48)
  have hb : Below w.heap.size w (w.alloc (.cells #[.int .i64 n.kind,.int .i64 n.lo,.int .i64 n.hi,.string n.text,.slice p1 n.kids.length c1,.slice p2 n.fields.length c2,.int .i64 n.rest0,.int .i64 n.rest1] 48)):=(Below.refl _ _).alloc (Nat.le_refl _) _
  generalize w.alloc (.cells #[.int .i64 n.kind,.int .i64 n.lo,.int .i64 n.hi,.string n.text,.slice p1 n.kids.length c1,.slice p2 n.fields.length c2,.int .i64 n.rest0,.int .i64 n.rest1] 48) = w2 at *
  have Hb:=zH hb
  obtain ⟨⟨f0,f1,f2,f3⟩,f4,f5,f6,f7⟩:=t0y hA
  have HA:=zH hA
  have hlA:=t0a hA
  have Hcl:=zH (tfw p1 n.kids.length c1 (ic n.kids) w2 (hkr.below hb) (tga _) (by omega))
  clear hA hb hkr hkc
  go_wp2_with (go_at_call 89;refine Hcl.out.mono ?_;rintro e w3 ⟨v1,rfl,ho,q⟩;have Ho:=zH ho;have Hq3:=zH q;have Hb3:=zH (Hb.out.step q);clear q ho;clear f0 f1 f2 f3 f4 f5 f6 f7;have HA3:=zH ((Hq3.out.block _ hlA).trans HA.out);obtain ⟨⟨f0,f1,f2,f3⟩,f4,f5,f6,f7⟩:=t0y HA3.out)
  clear f0 f1 f2 f3 f4 f5 f6 f7
  go_loopw [12,3] (fun i ov wr=>∃ k : Nat,i = .int .i64 k ∧ k ≤ n.fields.length ∧ wr.ownsRow w2.heap.size 3 1 ov (n.kids ++ (n.fields.take k).map FF.node).length (ic (n.kids ++ (n.fields.take k).map FF.node)) ∧ Below w2.heap.size w2 wr) (fun i _ _=>n.fields.length - (intOf i).toNat)
  case atStart=>exact ⟨0,rfl,by omega,by simpa using Ho.out,Hq3.out⟩
  case round =>
    obtain ⟨k,rfl,hk,ho,hb⟩:=hrel
    have Hor:=zH ho;have Hbr:=zH hb;have Hbw:=zH (Hb.out.step hb);clear ho hb
    have hlen : (n.kids ++ (n.fields.take k).map FF.node).length ≤ 2097152:=by simp;omega
    obtain ⟨pv,cv,rfl⟩:=t0r Hor.out
    by_cases hlt : k < n.fields.length
    · obtain ⟨ak,ok,cs,rfl,hab,-,hrg,hP⟩:=HF.out.all hlt
      have hrg:=hrg wr Hbw.out
      unfold FC at hP
      subst hP
      have z0:=hrg 0 _ rfl
      have z1:=hrg 1 _ rfl
      have z2:=hrg 2 _ rfl
      have z3:=hrg 3 _ rfl
      rw [Nat.add_zero] at z0
      have hM1 : n.kids ++ (n.fields.take (k + 1)).map FF.node = (n.kids ++ (n.fields.take k).map FF.node) ++ [n.fields[k].node]:=by rw [List.take_succ_eq_append_getElem hlt,List.map_append,List.append_assoc];rfl
      have HM1:=zH hM1
      clear hrg hM1
      generalize n.kids ++ (n.fields.take k).map FF.node = M at *
      generalize n.fields[k] = x at *
      obtain ⟨wo,hwo⟩ : ∃ wo : World,wo = wr:=⟨_,rfl⟩
      subst hwo
      go_upto_region 5 with fail
      have hnew:=heap_alloc_new wo (.cells #[.int .i64 x.key.kind,.string x.key.text,.int .i64 x.node,.bool x.opt] 75)
      have ho : Below wo.heap.size wo (wo.alloc (.cells #[.int .i64 x.key.kind,.string x.key.text,.int .i64 x.node,.bool x.opt] 75)):=(Below.refl _ _).alloc (Nat.le_refl _) _
      generalize wo.alloc (.cells #[.int .i64 x.key.kind,.string x.key.text,.int .i64 x.node,.bool x.opt] 75) = w5 at *
      have hB5 : w2.heap.size ≤ w5.heap.size:=Nat.le_trans Hbr.out.size ho.size
      have Ho5:=zH (t0d Hor.out ho (Nat.le_refl _))
      have Hbb5:=zH (Hbr.out.trans (ho.mono Hbr.out.size))
      obtain ⟨g0,g1,g2,g3⟩ : w5.cell? ⟨wo.heap.size,0,none⟩ = some (.int .i64 x.key.kind) ∧ w5.cell? ⟨wo.heap.size,1,none⟩ = some (.string x.key.text) ∧ w5.cell? ⟨wo.heap.size,2,none⟩ = some (.int .i64 x.node) ∧ w5.cell? ⟨wo.heap.size,3,none⟩ = some (.bool x.opt):=by simp [World.cell?,hnew]
      clear z0 z1 z2 z3 hnew ho
      go_wp2_with (at_builtin;go_loud (refine t0n rfl (.tmp 16) (.tmp 19) 22 rfl 3 (by kernel_rfl) t4h rfl (by decide) (by decide) w2.heap.size _ w5.heap.size [.int .i64 x.node] (heap_alloc_new w5 _) (Nat.le_trans hB5 (by simp)) rfl (by simp [Value.oneCell']) (.slice pv M.length cv) M.length (ic M) rfl (t0d Ho5.out ((Below.refl _ _).alloc (Nat.le_refl _) _) (Nat.le_refl _)) (by omega) rfl ?_);intro v8 w8 ho8 hf8;have Ho8:=zH ho8;have Hbb8:=zH ((Hbb5.out.alloc hB5 _).trans (hf8.below (Nat.le_trans hB5 (by simp)) (by simp) fun g hg=>(Ho5.out.lt g hg).1));clear ho8 hf8)
      refine ⟨⟨k + 1,by go_num,by omega,?_,Hbb8.out⟩,by simp [intOf];omega⟩
      rw [HM1.out,tdv,List.length_append];exact Ho8.out
    · obtain rfl : k = n.fields.length:=by omega
      rw [List.take_length] at Hor hlen
      rw [List.take_length]
      generalize hM : n.kids ++ n.fields.map FF.node = M at *
      have hE : t1u n = M ++ if n.kind = 13 then [n.rest0,n.rest1] else []:=by rw [← hM];unfold t1u;rw [List.append_assoc]
      have HE:=zH hE
      clear hM hE
      obtain ⟨⟨f0,f1,f2,f3⟩,f4,f5,f6,f7⟩:=t0y ((Hbr.out.block _ hlA).trans HA.out)
      by_cases h13 : n.kind = 13
      · have d0 : (n.kind == 13) = true:=by simp [h13]
        have HE2:=zH (show t1u n = M ++ [n.rest0,n.rest1] by rw [HE.out,if_pos h13])
        clear h13
        have hB4:=Hbr.out.size
        have hr2 : RC (wr.alloc (.cells #[.int .i64 n.rest0,.int .i64 n.rest1] 3)) 1 (some ⟨wr.heap.size,0,none⟩) 2 (ic [n.rest0,n.rest1]):=RC.row rfl (heap_alloc_new wr _) (fun j u hu=>by simpa [ic] using hu)
        have Hr2:=zH hr2
        clear hr2
        go_wp2_with (at_builtin;go_loud (refine t0x rfl (.tmp 25) (.tmp 32) 22 rfl 3 (by kernel_rfl) t4h rfl (by decide) (by decide) w2.heap.size _ (some ⟨wr.heap.size,0,none⟩) M.length 2 2 (ic M) (ic [n.rest0,n.rest1]) (Nat.le_trans hB4 (by simp)) (.slice pv M.length cv) rfl rfl (t0d Hor.out ((Below.refl _ _).alloc (Nat.le_refl _) _) (Nat.le_refl _)) Hr2.out (tga _) (by omega) ?_);intro v8 w8 ho8 hf8;have Ho8:=zH ho8;have Hbb8:=zH (Hb.out.step ((Hbr.out.alloc hB4 _).trans (hf8.below (Nat.le_trans hB4 (by simp)) (by simp) fun g hg=>(Hor.out.lt g hg).1)));clear ho8 hf8)
        go_ret
        refine ⟨_,rfl,?_,Hbb8.out⟩
        rw [HE2.out]
        obtain ⟨pz,cz,rfl⟩:=t0r Ho8.out
        have hz : (M ++ [n.rest0,n.rest1]).length = M.length + 2:=by simp
        exact ⟨pz,cz,by rw [hz];rfl,by rw [hz];exact t5f Ho8.out,by rw [hz,tdv];exact RC.of_own Ho8.out⟩
      · have d0 : (n.kind == 13) = false:=by simp [h13]
        have HE2:=zH (show t1u n = M by rw [HE.out,if_neg h13];simp)
        clear h13
        go_wp2
        go_ret
        exact ⟨_,rfl,by rw [HE2.out];exact ⟨pv,cv,rfl,t5f Hor.out,RC.of_own Hor.out⟩,Hbw.out⟩
end Go.Proofs.YtjgldaaofdpcgaaGreat
namespace Go.Proofs.YtjgldaaofdpcgaaGreat
open Go.RowKit Go.Ident
set_option maxRecDepth 100000
theorem tcb (S : SD) : ∀ (n : Nat) (h : Int),h.toNat ≤ n → h ≤ 9223372036854775807 → GB (10 ^ n) 12 S h:=by
  intro n
  induction n with
  | zero =>
    intro h hn hh
    refine tb9 S h _ ?_
    intro w hS
    refine (tfv S h w hS (by omega)).mono ?_
    rintro e w' ⟨v,V,h1,h2,h3,h4⟩
    exact ⟨v,V,h1,h2,by show V.nodes ≤ 10 ^ 0;simpa using h3,h4⟩
  | succ n ih =>
    intro h hn hh
    refine tb9 S h _ ?_
    have hp : 1 ≤ 10 ^ n:=Nat.one_le_pow _ _ (by decide)
    have:=tbc S h (10 ^ n) hp hh (fun g=>ih (h - 1) (by omega) (by omega)) (fun g=>ih (h - 2) (by omega) (by omega))
    rwa [Nat.pow_succ,Nat.mul_comm]
def IR' (many : Nat) (f n : Int) (S : SD) (w : World) (e : Ending) (w' : World) : Prop:=∃ v l,e = .returned v ∧ IS (we (lo w.heap.size) w') v l ∧ l.length = many ∧ (∀ k ∈ l,f ≤ k ∧ k < n) ∧ SR S w w'
theorem tjp {w : World} {B B' : Nat} {v : Value} {l : List Int} (h : w.ownsRow B 3 1 v l.length (ic l)) (hB : B' ≤ B) : IS (we (lo B') w) v l:=by
  have h2:=t1q h ((t1g B').mono hB)
  obtain ⟨p,c,rfl⟩:=t0r h
  exact ⟨p,c,rfl,t5f h2,RC.of_own h2⟩
set_option maxHeartbeats 16000000 in
theorem t2o (S : SD) (many : Nat) (f n : Int) (w : World) (hS : SRC S w) (hm : many ≤ 1000) (hf : 0 ≤ f) (hfn : f < n) (hn : n ≤ 1000) : Calls Tryz.prog 73 #[.pointer (some ⟨S.b,0,none⟩),.int .i64 (many : Int),.int .i64 f,.int .i64 n] w (IR' many f n S w):=by
  have HS:=zH hS
  have hltS:=hS.lt
  clear hS
  go_enter Tryz.func73,Tryz.ntmps73
  go_wp2
  go_loopw [1,9] (fun nv ov wr=>∃ (m : Nat) (l : List Int),nv = .int .i64 (m : Int) ∧ m + l.length = many ∧ wr.ownsRow w.heap.size 3 1 ov l.length (ic l) ∧ (∀ k ∈ l,f ≤ k ∧ k < n) ∧ SR S w wr) (fun nv _ _=>(intOf nv).toNat)
  case atStart=>exact ⟨many,[],rfl,by simp,World.ownsRow_nil _ _ _ _,fun k hk=>by simp at hk,SR.refl HS.out⟩
  case round =>
    obtain ⟨m,l,rfl,hml,ho,hk,hsr⟩:=hrel
    obtain ⟨pa,ca,rfl⟩:=t0r ho
    have Ho:=zH ho;have Hk:=zH hk;have Hsr:=zH hsr
    have hsz:=hsr.size
    clear ho hk hsr
    by_cases hm0 : 0 < m
    · have d9 : decide (0 < m) = true:=by simp [hm0]
      obtain ⟨wq,hwq⟩ : ∃ wq : World,wq = wr:=⟨_,rfl⟩
      subst hwq
      go_wp2_with (first
        | (go_at_call 24;refine (t0z S (n - f) wq Hsr.out.src (by omega)).mono ?_;rintro e w5 ⟨y,rfl,hs,h0,h1,-⟩;have h1:=h1 (by omega);have Hs5:=zH hs;have Ho5:=zH (hs.owns Ho.out (by omega));have hw5 : w.heap.size ≤ w5.heap.size:=(Nat.le_trans hsz hs.size);clear hs)
        | (at_builtin;(refine t0n rfl (.tmp 14) (.tmp 22) 22 rfl 3 (by kernel_rfl) t4h rfl (by decide) (by decide) w.heap.size _ w5.heap.size [.int .i64 (f + y)] (heap_alloc_new w5 _) (Nat.le_trans hw5 (by simp)) rfl (by intro u hu;simp at hu;subst hu;rfl) (.slice pa l.length ca) l.length (ic l) rfl (t0d Ho5.out ((Below.refl _ _).alloc (Nat.le_refl _) _) (Nat.le_refl _)) (by omega) rfl ?_);intro v7 w7 ho7 hf7;have Hb7:=zH (((Below.refl w5.heap.size w5).alloc (Nat.le_refl _) (.cells #[.int .i64 (f + y)] 3)).mono hw5 |>.trans (hf7.below (Nat.le_trans hw5 (by simp)) (by simp) fun g hg=>(Ho5.out.lt g hg).1));have Ho7:=zH ho7;clear ho7 hf7))
      refine ⟨⟨m - 1,l ++ [f + y],by first | rfl | (congr 1;omega) | (congr 1),by simp;omega,by rw [List.length_append,tdv];exact Ho7.out,fun k hk=>?_,(Hsr.out.trans Hs5.out).app Hb7.out⟩,by simp [intOf];omega⟩
      rcases List.mem_append.1 hk with hk | hk
      · exact Hk.out k hk
      · rw [List.mem_singleton.1 hk];omega
    · have d9 : decide (0 < m) = false:=by simp;omega
      go_wp2
      go_ret
      exact ⟨_,l,rfl,tjp Ho.out (Nat.le_refl _),by omega,Hk.out,Hsr.out⟩
end Go.Proofs.YtjgldaaofdpcgaaGreat
namespace Go.Proofs.YtjgldaaofdpcgaaGreat
open Go.RowKit Go.Ident
set_option maxRecDepth 100000
def MK : List KK:=[⟨0,⟨#[97]⟩⟩,⟨0,⟨#[98]⟩⟩,⟨1,⟨#[115]⟩⟩]
def t7u : Nat → List (List KK)
  | 0=>[[]]
  | i + 1=>t7u i ++ (t7u i).map fun q=>q ++ (MK.drop i).take 1
theorem tal : (Tryz.prog.info? 75).map (fun i=>(i.zero,i.size,i.bytes)) = some (some (.agg #[.int .i64 0,.string ⟨#[]⟩,.int .i64 0,.bool false]),4,40):=by kernel_rfl
theorem t2v {S : SD} {w w' : World} {B : Nat} (h : SR S w w') (hl : B ≤ w.heap.size) : LexK.Ext (fun x=>x < B ∧ x ≠ S.b) w w':=⟨h.size,fun i hi e=>h.block hi e.2⟩
theorem t4r {S : SD} {w w' : World} {B : Nat} (h : Below B w w') : LexK.Ext (fun x=>x < B ∧ x ≠ S.b) w w':=⟨h.size,fun i _ e=>h.block _ e.1⟩
theorem t4i {E : Nat → Bool} {n bx : Nat} {w : World} {X : TN} {vs : List Value} (h : NC (we E w) X vs) (hx : E bx = true) (hl : ∀ k,k < n → E k = true) (cs : Array Value) : NC (we (lo n) (w.setRow bx cs)) X vs :=
  (h.below (by rw [t0j];exact t4e hx cs)).sub (t2r _ fun k hk=>hl k (by simpa [lo] using hk))
theorem IS.nil' (w : World) : IS w (.slice none 0 0) []:=⟨none,0,rfl,by simp,RC.nil _ _ _⟩
def GN (Q : TN → Prop) (S : SD) (w : World) (e : Ending) (w' : World) : Prop:=∃ cs X,e = .returned (.agg cs.toArray) ∧ NC (we (lo w.heap.size) w') X cs ∧ Q X ∧ SR S w w'
def DM (n : Int) (X : TN) : Prop:=X.kind = 13 ∧ X.lo = 0 ∧ X.hi = 0 ∧ X.text = t0u ∧ X.kids = [] ∧ X.fields.map FF.key ∈ t7u 3 ∧ (∀ f ∈ X.fields,0 ≤ f.node ∧ f.node < n) ∧ (0 ≤ X.rest0 ∧ X.rest0 < n) ∧ 0 ≤ X.rest1 ∧ X.rest1 < n
set_option maxHeartbeats 32000000 in
theorem tem (S : SD) (n : Int) (w : World) (hS : SRC S w) (h1n : 1 ≤ n) (hn : n ≤ 1000) : Calls Tryz.prog 74 #[.pointer (some ⟨S.b,0,none⟩),.int .i64 n] w (GN (DM n) S w):=by
  have hltS:=hS.lt
  have Hb:=zH (show w.heap.size ≠ S.b by omega)
  have Ha:=zH (SR.alloc hS (.cells #[.int .i64 0,.int .i64 0,.int .i64 0,.string ⟨#[]⟩,.slice none 0 0,.slice none 0 0,.int .i64 0,.int .i64 0] 48))
  have Hn:=zH (heap_alloc_new w (.cells #[.int .i64 0,.int .i64 0,.int .i64 0,.string ⟨#[]⟩,.slice none 0 0,.slice none 0 0,.int .i64 0,.int .i64 0] 48))
  clear hS
  go_enter Tryz.func74,Tryz.ntmps74
  go_upto_region 1 with fail
  generalize w.alloc (.cells #[.int .i64 0,.int .i64 0,.int .i64 0,.string ⟨#[]⟩,.slice none 0 0,.slice none 0 0,.int .i64 0,.int .i64 0] 48) = w1 at *
  go_upto_region 2 with (go_at_call 24;first
    | (refine (t0z S n w1 Ha.out.src (by omega)).mono ?_;rintro e w2 ⟨r0,rfl,hs,h0,h1,-⟩;have h1:=h1 (by omega);have H2:=zH (Ha.out.trans hs);have Z2:=zH ((hs.block (t0a Hn.out) Hb.out).trans Hn.out);clear hs)
    | (refine (t0z S n w2 H2.out.src (by omega)).mono ?_;rintro e w3 ⟨r1,rfl,hs,h2,h3,-⟩;have h3:=h3 (by omega);have H3:=zH (H2.out.trans hs);have Z3:=zH ((hs.block (t0a Z2.out) Hb.out).trans Z2.out);clear hs))
  have hB4:=heap_alloc_new w3 (.cells #[.int .i64 13,.int .i64 0,.int .i64 0,.string ⟨#[]⟩,.slice none 0 0,.slice none 0 0,.int .i64 r0,.int .i64 r1] 48)
  have hb4 : Below w3.heap.size w3 (w3.alloc (.cells #[.int .i64 13,.int .i64 0,.int .i64 0,.string ⟨#[]⟩,.slice none 0 0,.slice none 0 0,.int .i64 r0,.int .i64 r1] 48)):=(Below.refl _ _).alloc (Nat.le_refl _) _
  generalize w3.alloc (.cells #[.int .i64 13,.int .i64 0,.int .i64 0,.string ⟨#[]⟩,.slice none 0 0,.slice none 0 0,.int .i64 r0,.int .i64 r1] 48) = w4 at *
  have HB4:=zH hB4;have H4:=zH (H3.out.step hb4);have Z4:=zH ((hb4.block _ (t0a Z3.out)).trans Z3.out)
  have hbw:=(show w.heap.size < w3.heap.size from t0a Z3.out)
  clear hB4 hb4
  generalize w3.heap.size = bx at *
  go_upto_region 3 with fail
  have hB5:=heap_alloc_new w4 (.cells #[.int .i64 0,.string ⟨#[97]⟩,.int .i64 0,.string ⟨#[98]⟩,.int .i64 1,.string ⟨#[115]⟩] 73)
  have hb5 : Below w4.heap.size w4 (w4.alloc (.cells #[.int .i64 0,.string ⟨#[97]⟩,.int .i64 0,.string ⟨#[98]⟩,.int .i64 1,.string ⟨#[115]⟩] 73)):=(Below.refl _ _).alloc (Nat.le_refl _) _
  generalize w4.alloc (.cells #[.int .i64 0,.string ⟨#[97]⟩,.int .i64 0,.string ⟨#[98]⟩,.int .i64 1,.string ⟨#[115]⟩] 73) = w5 at *
  have HK5:=zH hB5;have H5:=zH (H4.out.step hb5);have Z5:=zH ((hb5.block _ (t0a Z4.out)).trans Z4.out);have HB5:=zH ((hb5.block _ (t0a HB4.out)).trans HB4.out)
  have hbk:=(show bx < w4.heap.size from t0a HB4.out)
  clear hB5 hb5
  generalize w4.heap.size = bk at *
  go_wp2
  go_loopw [7] (fun iv wr=>∃ (i : Nat) (fs : List FF) (xs : List Value) (fv : Value),iv = .int .i64 (i : Int) ∧ i ≤ 3 ∧ fs.length ≤ i ∧ wr.heap[bx]? = some (.cells #[.int .i64 13,.int .i64 0,.int .i64 0,.string ⟨#[]⟩,.slice none 0 0,fv,.int .i64 r0,.int .i64 r1] 48) ∧ wr.ownsRow (bk + 1) 75 4 fv fs.length xs ∧ Ch 4 FC fs xs ∧ fs.map FF.key ∈ t7u i ∧ (∀ f ∈ fs,0 ≤ f.node ∧ f.node < n) ∧ wr.heap[bk]? = some (.cells #[.int .i64 0,.string ⟨#[97]⟩,.int .i64 0,.string ⟨#[98]⟩,.int .i64 1,.string ⟨#[115]⟩] 73) ∧ wr.heap[w.heap.size]? = some (.cells #[.int .i64 0,.int .i64 0,.int .i64 0,.string ⟨#[]⟩,.slice none 0 0,.slice none 0 0,.int .i64 0,.int .i64 0] 48) ∧ SR S w wr) (fun iv _=>(3 - intOf iv).toNat)
  case atStart=>exact ⟨0,[],[],.slice none 0 0,rfl,by simp,by simp,HB5.out,World.ownsRow_nil _ _ _ _,Ch.nil,by simp [t7u],fun f hf=>by simp at hf,HK5.out,Z5.out,H5.out⟩
  case round =>
    obtain ⟨i,fs,xs,fv,rfl,hi,hfl,hBr,ho,hc,hks,hN,hKr,hZr,hsr⟩:=hrel
    obtain ⟨pa,ca,rfl⟩:=t0r ho
    have HBr:=zH hBr;have Ho:=zH ho;have Hc:=zH hc;have Hks:=zH hks;have HN:=zH hN;have HKr:=zH hKr;have HZr:=zH hZr;have Hsr:=zH hsr
    have hsz2 : bk + 1 ≤ wr.heap.size:=t0a hKr
    have Hxb:=zH (show bx ≠ S.b by omega)
    have Hkb:=zH (show bk ≠ S.b by omega)
    by_cases h3i : i < 3
    · clear hBr ho hc hks hN hKr hZr hsr
      obtain ⟨wq,hwq⟩ : ∃ wq : World,wq = wr:=⟨_,rfl⟩
      subst hwq
      rcases (show i = 0 ∨ i = 1 ∨ i = 2 by omega) with rfl | rfl | rfl
      · go_upto_region 7 with (go_at_call 24;refine (t0z S 2 wq Hsr.out.src (by omega)).mono ?_;rintro e w6 ⟨y,rfl,hs,h4,h5,-⟩;have h5:=h5 (by decide);have Hs6:=zH hs;have H6:=zH (Hsr.out.trans hs);clear hs;rcases (show y = 0 ∨ y = 1 by omega) with rfl | rfl)
        · refine ⟨⟨1,fs,xs,.slice pa fs.length ca,rfl,by omega,by omega,(Hs6.out.block (by omega) Hxb.out).trans HBr.out,Hs6.out.owns Ho.out (by omega),Hc.out,?_,HN.out,(Hs6.out.block (by omega) Hkb.out).trans HKr.out,(Hs6.out.block (by omega) Hb.out).trans HZr.out,H6.out⟩,by simp [intOf]⟩
          exact List.mem_append_left _ Hks.out
        · have HB6:=zH ((Hs6.out.block (by omega) Hxb.out).trans HBr.out)
          have HK6:=zH ((Hs6.out.block (by omega) Hkb.out).trans HKr.out)
          have hz6 : bk + 1 ≤ w6.heap.size:=t0a HK6.out
          have g5 : w6.cell? ⟨bx,5,none⟩ = some (.slice pa fs.length ca):=(by simp [World.cell?,HB6.out])
          have k0 : w6.cell? ⟨bk,0,none⟩ = some (.int .i64 0):=(by simp [World.cell?,HK6.out])
          have k1 : w6.cell? ⟨bk,1,none⟩ = some (.string ⟨#[97]⟩):=(by simp [World.cell?,HK6.out])
          have YX:=zH (show w6.drew.cell? ⟨bx,5,none⟩ = _ from g5)
          have YK:=zH (show w6.drew.cell? ⟨bk,0,none⟩ = _ from k0)
          have Hsd:=zH H6.out.src.drew
          go_wp2_with (first
            | ((with_reducible refine Lex.t0w ?_);refine fE (by repeat first | exact LexK.t0t | refine LexK.t0o rfl ?_ | refine LexK.t0p (by decide +kernel) ?_ | refine LexK.t0c rfl ⟨by omega,Hxb.out⟩ YX.out ?_ | refine LexK.t0c rfl ⟨by omega,Hkb.out⟩ YK.out ?_) ?_)
            | ((with_reducible refine Lex.t0q ?_);refine LexK.t0h (fun x=>x < bk + 1 ∧ x ≠ S.b) (by kernel_rfl) (by decide +kernel) ?_)
            | (with_reducible first | refine qH ?_ | refine LexK.t0s ?_ | refine LexK.t0v ?_)
            | ((with_reducible refine Lex.t1b ?_);first | (refine LexK.t0e hex7.out ?_) | (refine LexK.t0e hex8.out ?_) | (refine LexK.t0e hex9.out ?_) | (refine LexK.t0e (LexK.Ext.alloc _ _) ?_) | (refine LexK.t0e (LexK.Ext.refl _) ?_))
            | (go_at_call 24;first
                | (refine (t0z S 2 w7 Hs7.out.src (by omega)).mono ?_;rintro e w8 ⟨y2,rfl,hs,h8,h9,-⟩;have h9:=h9 (by decide);have hex8:=zH (t2v hs (show bk + 1 ≤ w7.heap.size by have:=Hs7.out.size;exact Nat.le_trans hz6 this));have Hs8:=zH (Hs7.out.trans hs);have hz8 : bk + 1 ≤ w8.heap.size:=Nat.le_trans hz6 Hs8.out.size;have Ho8:=zH (Hs8.out.owns (t1s (Hs6.out.owns Ho.out (by omega))) (by omega));generalize hbt : (y2 == 1) = bt;clear hs)
                | (refine (t0z S n w6.drew Hsd.out (by omega)).mono ?_;rintro e w7 ⟨y1,rfl,hs,h6,h7,-⟩;have h7:=h7 (by omega);have hex7:=zH (t2v hs (by show bk + 1 ≤ w6.heap.size;omega));have Hs7:=zH hs;clear hs))
            | (at_builtin;go_loud (refine t0n rfl (.tmp 28) (.tmp 40) 45 rfl 75 (by kernel_rfl) tal rfl (by decide) (by decide) (bk + 1) _ w8.heap.size [.int .i64 0,.string ⟨#[97]⟩,.int .i64 y1,.bool bt] (heap_alloc_new w8 _) (Nat.le_trans hz8 (by simp)) rfl (by intro u hu;simp at hu;rcases hu with rfl | rfl | rfl | rfl <;> rfl) (.slice pa fs.length ca) fs.length xs rfl (t0d Ho8.out ((Below.refl _ _).alloc (Nat.le_refl _) _) (Nat.le_refl _)) (by omega) rfl ?_);intro v9 w9 ho9 hf9;have hb9:=(hf9.below (Nat.le_trans hz8 (by simp)) (by simp) fun g hg=>(Ho8.out.lt g hg).1);have hex9:=zH (show LexK.Ext (fun x=>x < bk + 1 ∧ x ≠ S.b) (w8.alloc (.cells #[.int .i64 0,.string ⟨#[97]⟩,.int .i64 y1,.bool bt] 75)) w9 from t4r hb9);have Hb9:=zH (((Below.refl w8.heap.size w8).alloc (Nat.le_refl _) (.cells #[.int .i64 0,.string ⟨#[97]⟩,.int .i64 y1,.bool bt] 75)).mono hz8 |>.trans hb9);obtain ⟨p9,c9,rfl⟩:=t0r ho9;have Ho9:=zH ho9;have hB9:=(Hb9.out.block bx (by omega)).trans ((Hs8.out.block (by show bx < w6.heap.size;omega) Hxb.out).trans HB6.out);have HB9:=zH hB9;have HU:=zH (Upd.set (i:=5) (v:=.slice p9 (fs.length + 1) c9) (Upd.refl hB9));have hz0 : w9.cell? ⟨bx,5,none⟩ = some (.slice pa fs.length ca):=(by simp [World.cell?,hB9]);have hz1 : w9.frozen? ⟨bx,5,none⟩ = false:=(by simp [World.frozen?,hB9]);clear ho9 hf9 hb9 hB9))
          have hBA:=HU.out.blk
          refine ⟨⟨1,fs ++ [⟨⟨0,⟨#[97]⟩⟩,y1,bt⟩],xs ++ [.int .i64 0,.string ⟨#[97]⟩,.int .i64 y1,.bool bt],.slice p9 (fs.length + 1) c9,rfl,by omega,by rw [List.length_append];show fs.length + 1 ≤ _;omega,by simpa using hBA,by rw [List.length_append];exact t1r Ho9.out HU.out (by omega),Hc.out.append (Ch.single rfl (show FC ⟨⟨0,⟨#[97]⟩⟩,y1,bt⟩ [.int .i64 0,.string ⟨#[97]⟩,.int .i64 y1,.bool bt] from rfl)),?_,fun f hf=>?_,?_,?_,((H6.out.drew.trans Hs8.out).app (Hb9.out.mono (by omega))).app (HU.out.below (by omega))⟩,by simp [intOf]⟩
          · rw [List.map_append]
            exact List.mem_append_right _ (List.mem_map.2 ⟨_,Hks.out,rfl⟩)
          · rcases List.mem_append.1 hf with hf | hf
            · exact HN.out f hf
            · rw [List.mem_singleton.1 hf];exact ⟨h6,h7⟩
          · exact (HU.out.other bk (by omega)).trans ((Hb9.out.block _ (by omega)).trans ((Hs8.out.block (by show bk < w6.heap.size;omega) Hkb.out).trans HK6.out))
          · exact (HU.out.other w.heap.size (by omega)).trans ((Hb9.out.block _ (by omega)).trans ((Hs8.out.block (by show w.heap.size < w6.heap.size;omega) Hb.out).trans ((Hs6.out.block (by omega) Hb.out).trans HZr.out)))
      · go_upto_region 7 with (go_at_call 24;refine (t0z S 2 wq Hsr.out.src (by omega)).mono ?_;rintro e w6 ⟨y,rfl,hs,h4,h5,-⟩;have h5:=h5 (by decide);have Hs6:=zH hs;have H6:=zH (Hsr.out.trans hs);clear hs;rcases (show y = 0 ∨ y = 1 by omega) with rfl | rfl)
        · refine ⟨⟨2,fs,xs,.slice pa fs.length ca,rfl,by omega,by omega,(Hs6.out.block (by omega) Hxb.out).trans HBr.out,Hs6.out.owns Ho.out (by omega),Hc.out,?_,HN.out,(Hs6.out.block (by omega) Hkb.out).trans HKr.out,(Hs6.out.block (by omega) Hb.out).trans HZr.out,H6.out⟩,by simp [intOf]⟩
          exact List.mem_append_left _ Hks.out
        · have HB6:=zH ((Hs6.out.block (by omega) Hxb.out).trans HBr.out)
          have HK6:=zH ((Hs6.out.block (by omega) Hkb.out).trans HKr.out)
          have hz6 : bk + 1 ≤ w6.heap.size:=t0a HK6.out
          have g5 : w6.cell? ⟨bx,5,none⟩ = some (.slice pa fs.length ca):=(by simp [World.cell?,HB6.out])
          have k0 : w6.cell? ⟨bk,2,none⟩ = some (.int .i64 0):=(by simp [World.cell?,HK6.out])
          have k1 : w6.cell? ⟨bk,3,none⟩ = some (.string ⟨#[98]⟩):=(by simp [World.cell?,HK6.out])
          have YX:=zH (show w6.drew.cell? ⟨bx,5,none⟩ = _ from g5)
          have YK:=zH (show w6.drew.cell? ⟨bk,2,none⟩ = _ from k0)
          have Hsd:=zH H6.out.src.drew
          go_wp2_with (first
            | ((with_reducible refine Lex.t0w ?_);refine fE (by repeat first | exact LexK.t0t | refine LexK.t0o rfl ?_ | refine LexK.t0p (by decide +kernel) ?_ | refine LexK.t0c rfl ⟨by omega,Hxb.out⟩ YX.out ?_ | refine LexK.t0c rfl ⟨by omega,Hkb.out⟩ YK.out ?_) ?_)
            | ((with_reducible refine Lex.t0q ?_);refine LexK.t0h (fun x=>x < bk + 1 ∧ x ≠ S.b) (by kernel_rfl) (by decide +kernel) ?_)
            | (with_reducible first | refine qH ?_ | refine LexK.t0s ?_ | refine LexK.t0v ?_)
            | ((with_reducible refine Lex.t1b ?_);first | (refine LexK.t0e hex7.out ?_) | (refine LexK.t0e hex8.out ?_) | (refine LexK.t0e hex9.out ?_) | (refine LexK.t0e (LexK.Ext.alloc _ _) ?_) | (refine LexK.t0e (LexK.Ext.refl _) ?_))
            | (go_at_call 24;first
                | (refine (t0z S 2 w7 Hs7.out.src (by omega)).mono ?_;rintro e w8 ⟨y2,rfl,hs,h8,h9,-⟩;have h9:=h9 (by decide);have hex8:=zH (t2v hs (show bk + 1 ≤ w7.heap.size by have:=Hs7.out.size;exact Nat.le_trans hz6 this));have Hs8:=zH (Hs7.out.trans hs);have hz8 : bk + 1 ≤ w8.heap.size:=Nat.le_trans hz6 Hs8.out.size;have Ho8:=zH (Hs8.out.owns (t1s (Hs6.out.owns Ho.out (by omega))) (by omega));generalize hbt : (y2 == 1) = bt;clear hs)
                | (refine (t0z S n w6.drew Hsd.out (by omega)).mono ?_;rintro e w7 ⟨y1,rfl,hs,h6,h7,-⟩;have h7:=h7 (by omega);have hex7:=zH (t2v hs (by show bk + 1 ≤ w6.heap.size;omega));have Hs7:=zH hs;clear hs))
            | (at_builtin;go_loud (refine t0n rfl (.tmp 28) (.tmp 40) 45 rfl 75 (by kernel_rfl) tal rfl (by decide) (by decide) (bk + 1) _ w8.heap.size [.int .i64 0,.string ⟨#[98]⟩,.int .i64 y1,.bool bt] (heap_alloc_new w8 _) (Nat.le_trans hz8 (by simp)) rfl (by intro u hu;simp at hu;rcases hu with rfl | rfl | rfl | rfl <;> rfl) (.slice pa fs.length ca) fs.length xs rfl (t0d Ho8.out ((Below.refl _ _).alloc (Nat.le_refl _) _) (Nat.le_refl _)) (by omega) rfl ?_);intro v9 w9 ho9 hf9;have hb9:=(hf9.below (Nat.le_trans hz8 (by simp)) (by simp) fun g hg=>(Ho8.out.lt g hg).1);have hex9:=zH (show LexK.Ext (fun x=>x < bk + 1 ∧ x ≠ S.b) (w8.alloc (.cells #[.int .i64 0,.string ⟨#[98]⟩,.int .i64 y1,.bool bt] 75)) w9 from t4r hb9);have Hb9:=zH (((Below.refl w8.heap.size w8).alloc (Nat.le_refl _) (.cells #[.int .i64 0,.string ⟨#[98]⟩,.int .i64 y1,.bool bt] 75)).mono hz8 |>.trans hb9);obtain ⟨p9,c9,rfl⟩:=t0r ho9;have Ho9:=zH ho9;have hB9:=(Hb9.out.block bx (by omega)).trans ((Hs8.out.block (by show bx < w6.heap.size;omega) Hxb.out).trans HB6.out);have HB9:=zH hB9;have HU:=zH (Upd.set (i:=5) (v:=.slice p9 (fs.length + 1) c9) (Upd.refl hB9));have hz0 : w9.cell? ⟨bx,5,none⟩ = some (.slice pa fs.length ca):=(by simp [World.cell?,hB9]);have hz1 : w9.frozen? ⟨bx,5,none⟩ = false:=(by simp [World.frozen?,hB9]);clear ho9 hf9 hb9 hB9))
          have hBA:=HU.out.blk
          refine ⟨⟨2,fs ++ [⟨⟨0,⟨#[98]⟩⟩,y1,bt⟩],xs ++ [.int .i64 0,.string ⟨#[98]⟩,.int .i64 y1,.bool bt],.slice p9 (fs.length + 1) c9,rfl,by omega,by rw [List.length_append];show fs.length + 1 ≤ _;omega,by simpa using hBA,by rw [List.length_append];exact t1r Ho9.out HU.out (by omega),Hc.out.append (Ch.single rfl (show FC ⟨⟨0,⟨#[98]⟩⟩,y1,bt⟩ [.int .i64 0,.string ⟨#[98]⟩,.int .i64 y1,.bool bt] from rfl)),?_,fun f hf=>?_,?_,?_,((H6.out.drew.trans Hs8.out).app (Hb9.out.mono (by omega))).app (HU.out.below (by omega))⟩,by simp [intOf]⟩
          · rw [List.map_append]
            exact List.mem_append_right _ (List.mem_map.2 ⟨_,Hks.out,rfl⟩)
          · rcases List.mem_append.1 hf with hf | hf
            · exact HN.out f hf
            · rw [List.mem_singleton.1 hf];exact ⟨h6,h7⟩
          · exact (HU.out.other bk (by omega)).trans ((Hb9.out.block _ (by omega)).trans ((Hs8.out.block (by show bk < w6.heap.size;omega) Hkb.out).trans HK6.out))
          · exact (HU.out.other w.heap.size (by omega)).trans ((Hb9.out.block _ (by omega)).trans ((Hs8.out.block (by show w.heap.size < w6.heap.size;omega) Hb.out).trans ((Hs6.out.block (by omega) Hb.out).trans HZr.out)))
      · go_upto_region 7 with (go_at_call 24;refine (t0z S 2 wq Hsr.out.src (by omega)).mono ?_;rintro e w6 ⟨y,rfl,hs,h4,h5,-⟩;have h5:=h5 (by decide);have Hs6:=zH hs;have H6:=zH (Hsr.out.trans hs);clear hs;rcases (show y = 0 ∨ y = 1 by omega) with rfl | rfl)
        · refine ⟨⟨3,fs,xs,.slice pa fs.length ca,rfl,by omega,by omega,(Hs6.out.block (by omega) Hxb.out).trans HBr.out,Hs6.out.owns Ho.out (by omega),Hc.out,?_,HN.out,(Hs6.out.block (by omega) Hkb.out).trans HKr.out,(Hs6.out.block (by omega) Hb.out).trans HZr.out,H6.out⟩,by simp [intOf]⟩
          exact List.mem_append_left _ Hks.out
        · have HB6:=zH ((Hs6.out.block (by omega) Hxb.out).trans HBr.out)
          have HK6:=zH ((Hs6.out.block (by omega) Hkb.out).trans HKr.out)
          have hz6 : bk + 1 ≤ w6.heap.size:=t0a HK6.out
          have g5 : w6.cell? ⟨bx,5,none⟩ = some (.slice pa fs.length ca):=(by simp [World.cell?,HB6.out])
          have k0 : w6.cell? ⟨bk,4,none⟩ = some (.int .i64 1):=(by simp [World.cell?,HK6.out])
          have k1 : w6.cell? ⟨bk,5,none⟩ = some (.string ⟨#[115]⟩):=(by simp [World.cell?,HK6.out])
          have YX:=zH (show w6.drew.cell? ⟨bx,5,none⟩ = _ from g5)
          have YK:=zH (show w6.drew.cell? ⟨bk,4,none⟩ = _ from k0)
          have Hsd:=zH H6.out.src.drew
          go_wp2_with (first
            | ((with_reducible refine Lex.t0w ?_);refine fE (by repeat first | exact LexK.t0t | refine LexK.t0o rfl ?_ | refine LexK.t0p (by decide +kernel) ?_ | refine LexK.t0c rfl ⟨by omega,Hxb.out⟩ YX.out ?_ | refine LexK.t0c rfl ⟨by omega,Hkb.out⟩ YK.out ?_) ?_)
            | ((with_reducible refine Lex.t0q ?_);refine LexK.t0h (fun x=>x < bk + 1 ∧ x ≠ S.b) (by kernel_rfl) (by decide +kernel) ?_)
            | (with_reducible first | refine qH ?_ | refine LexK.t0s ?_ | refine LexK.t0v ?_)
            | ((with_reducible refine Lex.t1b ?_);first | (refine LexK.t0e hex7.out ?_) | (refine LexK.t0e hex8.out ?_) | (refine LexK.t0e hex9.out ?_) | (refine LexK.t0e (LexK.Ext.alloc _ _) ?_) | (refine LexK.t0e (LexK.Ext.refl _) ?_))
            | (go_at_call 24;first
                | (refine (t0z S 2 w7 Hs7.out.src (by omega)).mono ?_;rintro e w8 ⟨y2,rfl,hs,h8,h9,-⟩;have h9:=h9 (by decide);have hex8:=zH (t2v hs (show bk + 1 ≤ w7.heap.size by have:=Hs7.out.size;exact Nat.le_trans hz6 this));have Hs8:=zH (Hs7.out.trans hs);have hz8 : bk + 1 ≤ w8.heap.size:=Nat.le_trans hz6 Hs8.out.size;have Ho8:=zH (Hs8.out.owns (t1s (Hs6.out.owns Ho.out (by omega))) (by omega));generalize hbt : (y2 == 1) = bt;clear hs)
                | (refine (t0z S n w6.drew Hsd.out (by omega)).mono ?_;rintro e w7 ⟨y1,rfl,hs,h6,h7,-⟩;have h7:=h7 (by omega);have hex7:=zH (t2v hs (by show bk + 1 ≤ w6.heap.size;omega));have Hs7:=zH hs;clear hs))
            | (at_builtin;go_loud (refine t0n rfl (.tmp 28) (.tmp 40) 45 rfl 75 (by kernel_rfl) tal rfl (by decide) (by decide) (bk + 1) _ w8.heap.size [.int .i64 1,.string ⟨#[115]⟩,.int .i64 y1,.bool bt] (heap_alloc_new w8 _) (Nat.le_trans hz8 (by simp)) rfl (by intro u hu;simp at hu;rcases hu with rfl | rfl | rfl | rfl <;> rfl) (.slice pa fs.length ca) fs.length xs rfl (t0d Ho8.out ((Below.refl _ _).alloc (Nat.le_refl _) _) (Nat.le_refl _)) (by omega) rfl ?_);intro v9 w9 ho9 hf9;have hb9:=(hf9.below (Nat.le_trans hz8 (by simp)) (by simp) fun g hg=>(Ho8.out.lt g hg).1);have hex9:=zH (show LexK.Ext (fun x=>x < bk + 1 ∧ x ≠ S.b) (w8.alloc (.cells #[.int .i64 1,.string ⟨#[115]⟩,.int .i64 y1,.bool bt] 75)) w9 from t4r hb9);have Hb9:=zH (((Below.refl w8.heap.size w8).alloc (Nat.le_refl _) (.cells #[.int .i64 1,.string ⟨#[115]⟩,.int .i64 y1,.bool bt] 75)).mono hz8 |>.trans hb9);obtain ⟨p9,c9,rfl⟩:=t0r ho9;have Ho9:=zH ho9;have hB9:=(Hb9.out.block bx (by omega)).trans ((Hs8.out.block (by show bx < w6.heap.size;omega) Hxb.out).trans HB6.out);have HB9:=zH hB9;have HU:=zH (Upd.set (i:=5) (v:=.slice p9 (fs.length + 1) c9) (Upd.refl hB9));have hz0 : w9.cell? ⟨bx,5,none⟩ = some (.slice pa fs.length ca):=(by simp [World.cell?,hB9]);have hz1 : w9.frozen? ⟨bx,5,none⟩ = false:=(by simp [World.frozen?,hB9]);clear ho9 hf9 hb9 hB9))
          have hBA:=HU.out.blk
          refine ⟨⟨3,fs ++ [⟨⟨1,⟨#[115]⟩⟩,y1,bt⟩],xs ++ [.int .i64 1,.string ⟨#[115]⟩,.int .i64 y1,.bool bt],.slice p9 (fs.length + 1) c9,rfl,by omega,by rw [List.length_append];show fs.length + 1 ≤ _;omega,by simpa using hBA,by rw [List.length_append];exact t1r Ho9.out HU.out (by omega),Hc.out.append (Ch.single rfl (show FC ⟨⟨1,⟨#[115]⟩⟩,y1,bt⟩ [.int .i64 1,.string ⟨#[115]⟩,.int .i64 y1,.bool bt] from rfl)),?_,fun f hf=>?_,?_,?_,((H6.out.drew.trans Hs8.out).app (Hb9.out.mono (by omega))).app (HU.out.below (by omega))⟩,by simp [intOf]⟩
          · rw [List.map_append]
            exact List.mem_append_right _ (List.mem_map.2 ⟨_,Hks.out,rfl⟩)
          · rcases List.mem_append.1 hf with hf | hf
            · exact HN.out f hf
            · rw [List.mem_singleton.1 hf];exact ⟨h6,h7⟩
          · exact (HU.out.other bk (by omega)).trans ((Hb9.out.block _ (by omega)).trans ((Hs8.out.block (by show bk < w6.heap.size;omega) Hkb.out).trans HK6.out))
          · exact (HU.out.other w.heap.size (by omega)).trans ((Hb9.out.block _ (by omega)).trans ((Hs8.out.block (by show w.heap.size < w6.heap.size;omega) Hb.out).trans ((Hs6.out.block (by omega) Hb.out).trans HZr.out)))
    · obtain rfl : i = 3:=by omega
      obtain ⟨⟨g0,g1,g2,g3⟩,g4,g5,g6,g7⟩:=t0y hBr
      clear hBr ho hc hks hN hKr hZr hsr
      go_wp2_with (with_reducible refine wpList_store_row rfl 48 (.tmp 4) (.tmp 43) rfl _ _ rfl rfl _ _ HZr.out (by kernel_rfl) (by kernel_rfl) (by kernel_rfl) ?_)
      refine bodyPost_ret (results_cell_row rfl _ _ w.heap.size 48 _ (0,0) _ rfl (setRow_heap _ _ _ _ _ _ HZr.out) rfl rfl (by kernel_rfl)) rfl ?_
      obtain ⟨pz,cz,ez,hrw⟩:=t1o (t1q Ho.out (t1g _)) Hc.out (by omega)
      injection ez with ez1 _ ez3
      subst ez1 ez3
      exact ⟨_,⟨13,0,0,t0u,[],fs,r0,r1⟩,rfl,t4i ⟨none,0,_,_,rfl,IS.nil' _,hrw⟩ (show lo (bk + 1) w.heap.size = true by simp [lo];omega) (fun k hk=>by simp [lo];omega) _,⟨rfl,rfl,rfl,rfl,rfl,Hks.out,HN.out,⟨h0,h1⟩,h2,h3⟩,Hsr.out.row (Nat.le_refl _) Hb.out _⟩
end Go.Proofs.YtjgldaaofdpcgaaGreat
