/- Walks and plain facts for the law on type variables, for all values and types that the heap holds (texts W2 W3 A1 A2). -/
import Derived.Test.YtfpahmeploondaaGreatDoorR03
import Derived.Test.YtfpahmeploondaaGreatDoorR09
import Derived.Test.YtfpahmeploondaaGreatDoorR15
set_option linter.unusedVariables false
set_option linter.unusedSimpArgs false
set_option maxHeartbeats 64000000
open Option renaming none -> G0, some -> G5
open Bool renaming true -> G6, false -> G7
open Go.Value renaming slice -> GU, string -> GW, int -> GX
open Go.Obj renaming cells -> GY
open Go.IntKind renaming i64 -> GZ
open List renaming mem_append_left -> JD, length_append -> Ii, mem_singleton -> I7, take_length -> Jf, mem_append -> Ir, map_append -> Jb, mem_map -> IW
open Go.World renaming ownsRow_nil -> Io, frozen? -> IB, cell? -> Ic
open Go renaming heap_alloc_new -> HG
open Go.LexK.Ext renaming alloc -> IF, refl -> Is
open Nat renaming le_trans -> G9, le_refl -> G8
open Go.LexK renaming Ext -> Hh, an -> JP, aq -> JQ, aH -> JT, aG -> JU, aK -> JV, aL -> JW, aO -> JY
namespace Go.Proofs.YtfpahmeploondaaGreatDoor
open Go.RowKit Go.Ident
set_option maxRecDepth 100000
theorem sW(p:Option Addr)(l c:Nat)(w:World):(binOp .eql 22 (GU p l c) (GU G0 0 0)).run Tryz.prog w=.ok (.bool p.isNone) w:=by
 cases p<;>simp[binOp,Op.equal,Op.equalIn,run_underlying (show Tryz.prog.underlying 22=G5 (.slice 3)by kernel_rfl)]<;>rfl
theorem eV:(Tryz.prog.info? 3).map (fun i=>(i.zero,i.size,i.bytes))=G5 (G5 (GX GZ 0),1,8):=by kernel_rfl
theorem nU(p:Option Addr)(n c:Nat)(cs:List Value)(w:World)(hr:RC w 1 p n cs)(h1:∀u∈cs,u.oneCell'=G6)(hn:n<=1048576):
 Calls Tryz.prog 70 #[GU p n c] w fun e w'=>∃v',e=.returned v'/\w'.ownsRow w.heap.size 3 1 v' n cs/\Below w.heap.size w w':=by
 cases p with
 | none =>
   have hn0:n=0:=by
    rcases Nat.eq_zero_or_pos n with h|h
    ·exact h
    ·obtain⟨_,_,e,_⟩:=hr.2 h;cases e
   subst hn0;have hcs:cs=[]:=List.length_eq_zero_iff.1 (by have:=hr.1;omega);subst hcs;have he:=sW G0 0 c;rw[show(G0:Option Addr).isNone=G6 from rfl]at he;clear hr h1;go_enter Tryz.func70,Tryz.ntmps70;go_wp2;go_ret;exact⟨_,rfl,Io _ _ _ _,Below.refl _ _⟩
 | some ad =>
   have hal:=(Below.refl w.heap.size w).alloc (G8 _) (GY #[] 3);have hown:(w.alloc (GY #[] 3)).ownsRow w.heap.size 3 1 (GU (G5 ⟨w.heap.size,0,G0⟩) 0 0) 0 []:=
    ⟨rfl,.inr ⟨w.heap.size,0,#[],rfl,G8 _,HG _ _,G8 _,by decide,rfl,rfl⟩⟩
   have Hr:=zH (hr.below hal);have Hal:=zH hal;have Hown:=zH hown;have H1:=zH h1;have hsz:=hal.size;clear hr hal hown h1;have he:=sW (G5 ad) n c;rw[show(G5 ad).isNone=G7 from rfl]at he;have hl0:(0:Nat)+n<=67108864:=by omega
   go_enter Tryz.func70,Tryz.ntmps70;go_wp2_with(first
    |(at_builtin;go_loud(refine aC rfl (.tmp 5) (.tmp 6) 22 rfl 3 (by kernel_rfl) eV rfl (by decide) (by decide) w.heap.size _ (G5 ad) 0 n c [] cs hsz (GU (G5 ⟨w.heap.size,0,G0⟩) 0 0) rfl rfl Hown.o Hr.o H1.o hl0 ?_);intro v' w' ho hf;have Ho:=zH ho;have Hbe:=zH (hf.below hsz (by simp) (fun g hg=>by simp[Value.ownBlock]at hg;omega));clear ho hf))
   go_ret;exact⟨_,rfl,by have:=Ho.o;rwa[Nat.zero_add,List.nil_append]at this,Hal.o.trans Hbe.o⟩
theorem ve(xs ys:List Int):ic (xs++ys)=ic xs++ic ys:=by simp[ic]
theorem yn(n:TN)(w:World)(cs:List Value)(h:NC w n cs)(hn:n.kids.length<=1048576/\n.fields.length<=1048576):Calls Tryz.prog 48 #[.agg cs.toArray] w fun e w'=>∃v',e=.returned v'/\IS w' v' (bq n)/\Below w.heap.size w w':=by
 obtain⟨p1,c1,p2,c2,rfl,⟨_,_,e8,hkc,hkr⟩,hF⟩:=h;injection e8 with e81 _ e83
 subst e81 e83;have HF:=zH hF;have hL:=hF.big;clear hF;go_enter Tryz.func48,Tryz.ntmps48;go_upto_region 1 with fail
 have hA:=HG w (GY #[GX GZ n.kind,GX GZ n.lo,GX GZ n.hi,GW n.text,GU p1 n.kids.length c1,GU p2 n.fields.length c2,GX GZ n.rest0,GX GZ n.rest1] 61);have hb:Below w.heap.size w (w.alloc (GY #[GX GZ n.kind,GX GZ n.lo,GX GZ n.hi,GW n.text,GU p1 n.kids.length c1,GU p2 n.fields.length c2,GX GZ n.rest0,GX GZ n.rest1] 61)):=(Below.refl _ _).alloc (G8 _) _;generalize w.alloc (GY #[GX GZ n.kind,GX GZ n.lo,GX GZ n.hi,GW n.text,GU p1 n.kids.length c1,GU p2 n.fields.length c2,GX GZ n.rest0,GX GZ n.rest1] 61)=w2 at*
 have Hb:=zH hb;obtain⟨⟨f0,f1,f2,f3⟩,f4,f5,f6,f7⟩:=aY hA;have HA:=zH hA;have hlA:=ai hA;have Hcl:=zH (nU p1 n.kids.length c1 (ic n.kids) w2 (hkr.below hb) (uP _) (by omega));clear hA hb hkr hkc;go_wp2_with(go_at_call 70;refine Hcl.o.mono ?_;rintro e w3 ⟨v1,rfl,ho,q⟩;have Ho:=zH ho;have Hq3:=zH q;have Hb3:=zH (Hb.o.step q);clear q ho;clear f0 f1 f2 f3 f4 f5 f6 f7;have HA3:=zH ((Hq3.o.block _ hlA).trans HA.o);obtain⟨⟨f0,f1,f2,f3⟩,f4,f5,f6,f7⟩:=aY HA3.o);clear f0 f1 f2 f3 f4 f5 f6 f7;go_loopw[12,3] (fun i ov wr=>∃k:Nat,i=GX GZ k/\k<=n.fields.length/\wr.ownsRow w2.heap.size 3 1 ov (n.kids++(n.fields.take k).map FF.node).length (ic (n.kids++(n.fields.take k).map FF.node))/\Below w2.heap.size w2 wr) (fun i _ _=>n.fields.length-(intOf i).toNat)
 case atStart=>exact⟨0,rfl,by omega,by simpa using Ho.o,Hq3.o⟩
 case round=>
  obtain⟨k,rfl,hk,ho,hb⟩:=hrel;have Hor:=zH ho;have Hbr:=zH hb;have Hbw:=zH (Hb.o.step hb);clear ho hb;have hlen:(n.kids++(n.fields.take k).map FF.node).length<=2097152:=by simp;omega
  obtain⟨pv,cv,rfl⟩:=aB Hor.o;by_cases hlt:k<n.fields.length
  ·obtain⟨ak,ok,cs,rfl,hab,-,hrg,hP⟩:=HF.o.all hlt;have hrg:=hrg wr Hbw.o;unfold FC at hP;subst hP;have z0:=hrg 0 _ rfl;have z1:=hrg 1 _ rfl;have z2:=hrg 2 _ rfl;have z3:=hrg 3 _ rfl;rw[Nat.add_zero]at z0;have hM1:n.kids++(n.fields.take (k+1)).map FF.node=(n.kids++(n.fields.take k).map FF.node)++[n.fields[k].node]:=by rw[List.take_succ_eq_append_getElem hlt,Jb,List.append_assoc];rfl
   have HM1:=zH hM1;clear hrg hM1;generalize n.kids++(n.fields.take k).map FF.node=M at*
   generalize n.fields[k]=x at*
   obtain⟨wo,hwo⟩:∃wo:World,wo=wr:=⟨_,rfl⟩
   subst hwo;go_upto_region 5 with fail
   have hnew:=HG wo (GY #[GX GZ x.key.kind,GW x.key.text,GX GZ x.node,.bool x.opt] 105);have ho:Below wo.heap.size wo (wo.alloc (GY #[GX GZ x.key.kind,GW x.key.text,GX GZ x.node,.bool x.opt] 105)):=(Below.refl _ _).alloc (G8 _) _;generalize wo.alloc (GY #[GX GZ x.key.kind,GW x.key.text,GX GZ x.node,.bool x.opt] 105)=w5 at*
   have hB5:w2.heap.size<=w5.heap.size:=G9 Hbr.o.size ho.size;have Ho5:=zH (ao Hor.o ho (G8 _));have Hbb5:=zH (Hbr.o.trans (ho.mono Hbr.o.size));obtain⟨g0,g1,g2,g3⟩:w5.cell? ⟨wo.heap.size,0,G0⟩=G5 (GX GZ x.key.kind)/\w5.cell? ⟨wo.heap.size,1,G0⟩=G5 (GW x.key.text)/\w5.cell? ⟨wo.heap.size,2,G0⟩=G5 (GX GZ x.node)/\w5.cell? ⟨wo.heap.size,3,G0⟩=G5 (.bool x.opt):=by simp[Ic,hnew]
   clear z0 z1 z2 z3 hnew ho;go_wp2_with(at_builtin;go_loud(refine aA rfl (.tmp 16) (.tmp 19) 22 rfl 3 (by kernel_rfl) eV rfl (by decide) (by decide) w2.heap.size _ w5.heap.size [GX GZ x.node] (HG w5 _) (G9 hB5 (by simp)) rfl (by simp[Value.oneCell']) (GU pv M.length cv) M.length (ic M) rfl (ao Ho5.o ((Below.refl _ _).alloc (G8 _) _) (G8 _)) (by omega) rfl ?_);intro v8 w8 ho8 hf8;have Ho8:=zH ho8;have Hbb8:=zH ((Hbb5.o.alloc hB5 _).trans (hf8.below (G9 hB5 (by simp)) (by simp) fun g hg=>(Ho5.o.lt g hg).1));clear ho8 hf8);refine⟨⟨k+1,by go_num,by omega,?_,Hbb8.o⟩,by simp[intOf];omega⟩;rw[HM1.o,ve,Ii];exact Ho8.o
  ·obtain rfl:k=n.fields.length:=by omega
   rw[Jf]at Hor hlen;rw[Jf];generalize hM:n.kids++n.fields.map FF.node=M at*
   have hE:bq n=M++if n.kind=13 then[n.rest0,n.rest1]else[]:=by rw[<-hM];unfold bq;rw[List.append_assoc]
   have HE:=zH hE;clear hM hE;obtain⟨⟨f0,f1,f2,f3⟩,f4,f5,f6,f7⟩:=aY ((Hbr.o.block _ hlA).trans HA.o);by_cases h13:n.kind=13
   ·have d0:(n.kind==13)=true:=by simp[h13]
    have HE2:=zH (show bq n=M++[n.rest0,n.rest1]by rw[HE.o,if_pos h13]);clear h13;have hB4:=Hbr.o.size;have hr2:RC (wr.alloc (GY #[GX GZ n.rest0,GX GZ n.rest1] 3)) 1 (G5 ⟨wr.heap.size,0,G0⟩) 2 (ic [n.rest0,n.rest1]):=RC.row rfl (HG wr _) (fun j u hu=>by simpa[ic]using hu);have Hr2:=zH hr2;clear hr2;go_wp2_with(at_builtin;go_loud(refine aC rfl (.tmp 25) (.tmp 32) 22 rfl 3 (by kernel_rfl) eV rfl (by decide) (by decide) w2.heap.size _ (G5 ⟨wr.heap.size,0,G0⟩) M.length 2 2 (ic M) (ic [n.rest0,n.rest1]) (G9 hB4 (by simp)) (GU pv M.length cv) rfl rfl (ao Hor.o ((Below.refl _ _).alloc (G8 _) _) (G8 _)) Hr2.o (uP _) (by omega) ?_);intro v8 w8 ho8 hf8;have Ho8:=zH ho8;have Hbb8:=zH (Hb.o.step ((Hbr.o.alloc hB4 _).trans (hf8.below (G9 hB4 (by simp)) (by simp) fun g hg=>(Hor.o.lt g hg).1)));clear ho8 hf8);go_ret;refine⟨_,rfl,?_,Hbb8.o⟩;rw[HE2.o];obtain⟨pz,cz,rfl⟩:=aB Ho8.o;have hz:(M++[n.rest0,n.rest1]).length=M.length+2:=by simp
    exact⟨pz,cz,by rw[hz];rfl,by rw[hz];exact eo Ho8.o,by rw[hz,ve];exact RC.of_own Ho8.o⟩
   ·have d0:(n.kind==13)=false:=by simp[h13]
    have HE2:=zH (show bq n=M by rw[HE.o,if_neg h13];simp);clear h13;go_wp2;go_ret;exact⟨_,rfl,by rw[HE2.o];exact⟨pv,cv,rfl,eo Hor.o,RC.of_own Hor.o⟩,Hbw.o⟩
theorem yo(S:SD):∀(n:Nat) (h:Int),h.toNat<=n->h<=9223372036854775807->GB (10^n) 65 S h:=by
 intro n
 induction n with
 | zero =>
   intro h hn hh;refine nR S h _ ?_;intro w hS;refine(vd S h w hS (by omega)).mono ?_;rintro e w' ⟨v,V,h1,h2,h3,h4⟩;exact⟨v,V,h1,h2,by show V.nodes<=10^0;simpa using h3,h4⟩
 | succ n ih =>
   intro h hn hh;refine nR S h _ ?_;have hp:1<=10^n:=Nat.one_le_pow _ _ (by decide);have:=nT S h (10^n) hp hh (fun g=>ih (h-1) (by omega) (by omega)) (fun g=>ih (h-2) (by omega) (by omega));rwa[Nat.pow_succ,Nat.mul_comm]
def IR'(many:Nat)(f n:Int)(S:SD)(w:World)(e:Ending)(w':World):Prop:=∃v l,e=.returned v/\IS (we (lo w.heap.size) w') v l/\l.length=many/\(∀k∈l,f<=k/\k<n)/\SR S w w'
theorem El {w:World}{B B':Nat}{v:Value}{l:List Int}(h:w.ownsRow B 3 1 v l.length (ic l))(hB:B'<=B):IS (we (lo B') w) v l:=by
 have h2:=bJ h ((bh B').mono hB);obtain⟨p,c,rfl⟩:=aB h;exact⟨p,c,rfl,eo h2,RC.of_own h2⟩
theorem cQ(S:SD)(many:Nat)(f n:Int)(w:World)(hS:SRC S w)(hm:many<=1000)(hf:0<=f)(hfn:f<n)(hn:n<=1000):Calls Tryz.prog 55 #[.pointer (G5 ⟨S.b,0,G0⟩),GX GZ (many:Int),GX GZ f,GX GZ n] w (IR' many f n S w):=by
 have HS:=zH hS;have hltS:=hS.lt;clear hS;go_enter Tryz.func55,Tryz.ntmps55;go_wp2;go_loopw[1,9] (fun nv ov wr=>∃(m:Nat) (l:List Int),nv=GX GZ (m:Int)/\m+l.length=many/\wr.ownsRow w.heap.size 3 1 ov l.length (ic l)/\(∀k∈l,f<=k/\k<n)/\SR S w wr) (fun nv _ _=>(intOf nv).toNat)
 case atStart=>exact⟨many,[],rfl,by simp,Io _ _ _ _,fun k hk=>by simp at hk,SR.refl HS.o⟩
 case round=>
  obtain⟨m,l,rfl,hml,ho,hk,hsr⟩:=hrel;obtain⟨pa,ca,rfl⟩:=aB ho;have Ho:=zH ho;have Hk:=zH hk;have Hsr:=zH hsr;have hsz:=hsr.size;clear ho hk hsr;by_cases hm0:0<m
  ·have d9:decide (0<m)=true:=by simp[hm0]
   obtain⟨wq,hwq⟩:∃wq:World,wq=wr:=⟨_,rfl⟩
   subst hwq;go_wp2_with(first
    |(go_at_call 14;refine(aU S (n-f) wq Hsr.o.src (by omega)).mono ?_;rintro e w5 ⟨y,rfl,hs,h0,h1,-⟩;have h1:=h1 (by omega);have Hs5:=zH hs;have Ho5:=zH (hs.owns Ho.o (by omega));have hw5:w.heap.size<=w5.heap.size:=(G9 hsz hs.size);clear hs)
    |(at_builtin;(refine aA rfl (.tmp 14) (.tmp 22) 22 rfl 3 (by kernel_rfl) eV rfl (by decide) (by decide) w.heap.size _ w5.heap.size [GX GZ (f+y)] (HG w5 _) (G9 hw5 (by simp)) rfl (by intro u hu;simp at hu;subst hu;rfl) (GU pa l.length ca) l.length (ic l) rfl (ao Ho5.o ((Below.refl _ _).alloc (G8 _) _) (G8 _)) (by omega) rfl ?_);intro v7 w7 ho7 hf7;have Hb7:=zH (((Below.refl w5.heap.size w5).alloc (G8 _) (GY #[GX GZ (f+y)] 3)).mono hw5|>.trans (hf7.below (G9 hw5 (by simp)) (by simp) fun g hg=>(Ho5.o.lt g hg).1));have Ho7:=zH ho7;clear ho7 hf7))
   refine⟨⟨m-1,l++[f+y],by first|rfl|(congr 1;omega)|(congr 1),by simp;omega,by rw[Ii,ve];exact Ho7.o,fun k hk=>?_,(Hsr.o.trans Hs5.o).app Hb7.o⟩,by simp[intOf];omega⟩;rcases Ir.1 hk with hk|hk
   ·exact Hk.o k hk
   ·rw[I7.1 hk];omega
  ·have d9:decide (0<m)=false:=by simp;omega
   go_wp2;go_ret;exact⟨_,l,rfl,El Ho.o (G8 _),by omega,Hk.o,Hsr.o⟩
def MK:List KK:=[⟨0,⟨#[97]⟩⟩,⟨0,⟨#[98]⟩⟩,⟨1,⟨#[115]⟩⟩]
def lJ:Nat->List (List KK)
 |0=>[[]]
 |i+1=>lJ i++(lJ i).map fun q=>q++(MK.drop i).take 1
theorem kL:(Tryz.prog.info? 105).map (fun i=>(i.zero,i.size,i.bytes))=G5 (G5 (.agg #[GX GZ 0,GW ⟨#[]⟩,GX GZ 0,.bool G7]),4,40):=by kernel_rfl
theorem dW {S:SD}{w w':World}{B:Nat}(h:SR S w w')(hl:B<=w.heap.size):Hh (fun x=>x<B/\x≠S.b) w w':=⟨h.size,fun i hi e=>h.block hi e.2⟩
theorem fH {S:SD}{w w':World}{B:Nat}(h:Below B w w'):Hh (fun x=>x<B/\x≠S.b) w w':=⟨h.size,fun i _ e=>h.block _ e.1⟩
theorem fV {E:Nat->Bool}{n bx:Nat}{w:World}{X:TN}{vs:List Value}(h:NC (we E w) X vs)(hx:E bx=G6)(hl:∀k,k<n->E k=G6)(cs:Array Value):NC (we (lo n) (w.setRow bx cs)) X vs:=
 (h.below (by rw[ap];exact eN hx cs)).sub (cw _ fun k hk=>hl k (by simpa[lo]using hk))
theorem IS.nil'(w:World):IS w (GU G0 0 0) []:=⟨G0,0,rfl,by simp,RC.nil _ _ _⟩
def GN(Q:TN->Prop)(S:SD)(w:World)(e:Ending)(w':World):Prop:=∃cs X,e=.returned (.agg cs.toArray)/\NC (we (lo w.heap.size) w') X cs/\Q X/\SR S w w'
def DM(n:Int)(X:TN):Prop:=X.kind=13/\X.lo=0/\X.hi=0/\X.text=aQ/\X.kids=[]/\X.fields.map FF.key∈lJ 3/\(∀f∈X.fields,0<=f.node/\f.node<n)/\(0<=X.rest0/\X.rest0<n)/\0<=X.rest1/\X.rest1<n
theorem sX(S:SD)(n:Int)(w:World)(hS:SRC S w)(h1n:1<=n)(hn:n<=1000):Calls Tryz.prog 56 #[.pointer (G5 ⟨S.b,0,G0⟩),GX GZ n] w (GN (DM n) S w):=by
 have hltS:=hS.lt;have Hb:=zH (show w.heap.size≠S.b by omega);have Ha:=zH (SR.alloc hS (GY #[GX GZ 0,GX GZ 0,GX GZ 0,GW ⟨#[]⟩,GU G0 0 0,GU G0 0 0,GX GZ 0,GX GZ 0] 61));have Hn:=zH (HG w (GY #[GX GZ 0,GX GZ 0,GX GZ 0,GW ⟨#[]⟩,GU G0 0 0,GU G0 0 0,GX GZ 0,GX GZ 0] 61));clear hS;go_enter Tryz.func56,Tryz.ntmps56;go_upto_region 1 with fail
 generalize w.alloc (GY #[GX GZ 0,GX GZ 0,GX GZ 0,GW ⟨#[]⟩,GU G0 0 0,GU G0 0 0,GX GZ 0,GX GZ 0] 61)=w1 at*
 go_upto_region 2 with(go_at_call 14;first
  |(refine(aU S n w1 Ha.o.src (by omega)).mono ?_;rintro e w2 ⟨r0,rfl,hs,h0,h1,-⟩;have h1:=h1 (by omega);have H2:=zH (Ha.o.trans hs);have Z2:=zH ((hs.block (ai Hn.o) Hb.o).trans Hn.o);clear hs)
  |(refine(aU S n w2 H2.o.src (by omega)).mono ?_;rintro e w3 ⟨r1,rfl,hs,h2,h3,-⟩;have h3:=h3 (by omega);have H3:=zH (H2.o.trans hs);have Z3:=zH ((hs.block (ai Z2.o) Hb.o).trans Z2.o);clear hs))
 have hB4:=HG w3 (GY #[GX GZ 13,GX GZ 0,GX GZ 0,GW ⟨#[]⟩,GU G0 0 0,GU G0 0 0,GX GZ r0,GX GZ r1] 61);have hb4:Below w3.heap.size w3 (w3.alloc (GY #[GX GZ 13,GX GZ 0,GX GZ 0,GW ⟨#[]⟩,GU G0 0 0,GU G0 0 0,GX GZ r0,GX GZ r1] 61)):=(Below.refl _ _).alloc (G8 _) _;generalize w3.alloc (GY #[GX GZ 13,GX GZ 0,GX GZ 0,GW ⟨#[]⟩,GU G0 0 0,GU G0 0 0,GX GZ r0,GX GZ r1] 61)=w4 at*
 have HB4:=zH hB4;have H4:=zH (H3.o.step hb4);have Z4:=zH ((hb4.block _ (ai Z3.o)).trans Z3.o);have hbw:=(show w.heap.size<w3.heap.size from ai Z3.o)
 clear hB4 hb4;generalize w3.heap.size=bx at*
 go_upto_region 3 with fail
 have hB5:=HG w4 (GY #[GX GZ 0,GW ⟨#[97]⟩,GX GZ 0,GW ⟨#[98]⟩,GX GZ 1,GW ⟨#[115]⟩] 103);have hb5:Below w4.heap.size w4 (w4.alloc (GY #[GX GZ 0,GW ⟨#[97]⟩,GX GZ 0,GW ⟨#[98]⟩,GX GZ 1,GW ⟨#[115]⟩] 103)):=(Below.refl _ _).alloc (G8 _) _;generalize w4.alloc (GY #[GX GZ 0,GW ⟨#[97]⟩,GX GZ 0,GW ⟨#[98]⟩,GX GZ 1,GW ⟨#[115]⟩] 103)=w5 at*
 have HK5:=zH hB5;have H5:=zH (H4.o.step hb5);have Z5:=zH ((hb5.block _ (ai Z4.o)).trans Z4.o);have HB5:=zH ((hb5.block _ (ai HB4.o)).trans HB4.o);have hbk:=(show bx<w4.heap.size from ai HB4.o)
 clear hB5 hb5;generalize w4.heap.size=bk at*
 go_wp2;go_loopw[7] (fun iv wr=>∃(i:Nat) (fs:List FF) (xs:List Value) (fv:Value),iv=GX GZ (i:Int)/\i<=3/\fs.length<=i/\wr.heap[bx]? =G5 (GY #[GX GZ 13,GX GZ 0,GX GZ 0,GW ⟨#[]⟩,GU G0 0 0,fv,GX GZ r0,GX GZ r1] 61)/\wr.ownsRow (bk+1) 105 4 fv fs.length xs/\Ch 4 FC fs xs/\fs.map FF.key∈lJ i/\(∀f∈fs,0<=f.node/\f.node<n)/\wr.heap[bk]? =G5 (GY #[GX GZ 0,GW ⟨#[97]⟩,GX GZ 0,GW ⟨#[98]⟩,GX GZ 1,GW ⟨#[115]⟩] 103)/\wr.heap[w.heap.size]? =G5 (GY #[GX GZ 0,GX GZ 0,GX GZ 0,GW ⟨#[]⟩,GU G0 0 0,GU G0 0 0,GX GZ 0,GX GZ 0] 61)/\SR S w wr) (fun iv _=>(3-intOf iv).toNat)
 case atStart=>exact⟨0,[],[],GU G0 0 0,rfl,by simp,by simp,HB5.o,Io _ _ _ _,Ch.nil,by simp[lJ],fun f hf=>by simp at hf,HK5.o,Z5.o,H5.o⟩
 case round=>
  obtain⟨i,fs,xs,fv,rfl,hi,hfl,hBr,ho,hc,hks,hN,hKr,hZr,hsr⟩:=hrel;obtain⟨pa,ca,rfl⟩:=aB ho;have HBr:=zH hBr;have Ho:=zH ho;have Hc:=zH hc;have Hks:=zH hks;have HN:=zH hN;have HKr:=zH hKr;have HZr:=zH hZr;have Hsr:=zH hsr;have hsz2:bk+1<=wr.heap.size:=ai hKr;have Hxb:=zH (show bx≠S.b by omega);have Hkb:=zH (show bk≠S.b by omega);by_cases h3i:i<3
  ·clear hBr ho hc hks hN hKr hZr hsr;obtain⟨wq,hwq⟩:∃wq:World,wq=wr:=⟨_,rfl⟩
   subst hwq;rcases(show i=0\/i=1\/i=2 by omega)with rfl|rfl|rfl
   ·go_upto_region 7 with(go_at_call 14;refine(aU S 2 wq Hsr.o.src (by omega)).mono ?_;rintro e w6 ⟨y,rfl,hs,h4,h5,-⟩;have h5:=h5 (by decide);have Hs6:=zH hs;have H6:=zH (Hsr.o.trans hs);clear hs;rcases(show y=0\/y=1 by omega)with rfl|rfl)
    ·refine⟨⟨1,fs,xs,GU pa fs.length ca,rfl,by omega,by omega,(Hs6.o.block (by omega) Hxb.o).trans HBr.o,Hs6.o.owns Ho.o (by omega),Hc.o,?_,HN.o,(Hs6.o.block (by omega) Hkb.o).trans HKr.o,(Hs6.o.block (by omega) Hb.o).trans HZr.o,H6.o⟩,by simp[intOf]⟩;exact JD _ Hks.o
    ·have HB6:=zH ((Hs6.o.block (by omega) Hxb.o).trans HBr.o);have HK6:=zH ((Hs6.o.block (by omega) Hkb.o).trans HKr.o);have hz6:bk+1<=w6.heap.size:=ai HK6.o;have g5:w6.cell? ⟨bx,5,G0⟩=G5 (GU pa fs.length ca):=(by simp[Ic,HB6.o])
     have k0:w6.cell? ⟨bk,0,G0⟩=G5 (GX GZ 0):=(by simp[Ic,HK6.o])
     have k1:w6.cell? ⟨bk,1,G0⟩=G5 (GW ⟨#[97]⟩):=(by simp[Ic,HK6.o])
     have YX:=zH (show w6.drew.cell? ⟨bx,5,G0⟩=_ from g5);have YK:=zH (show w6.drew.cell? ⟨bk,0,G0⟩=_ from k0);have Hsd:=zH H6.o.src.drew;go_wp2_with(first
      |((with_reducible refine Lex.aP ?_);refine fE (by repeat first|exact JW|refine JU rfl ?_|refine JT (by decide+kernel) ?_|refine JP rfl ⟨by omega,Hxb.o⟩ YX.o ?_|refine JP rfl ⟨by omega,Hkb.o⟩ YK.o ?_) ?_)
      |((with_reducible refine Lex.aI ?_);refine gL (fun x=>x<bk+1/\x≠S.b) ?_)
      |(with_reducible first|refine qH ?_|refine JV ?_|refine JY ?_)
      |((with_reducible refine Lex.aX ?_);first|(refine JQ hex7.o ?_)|(refine JQ hex8.o ?_)|(refine JQ hex9.o ?_)|(refine JQ (IF _ _) ?_)|(refine JQ (Is _) ?_))
      |(go_at_call 14;first
       |(refine(aU S 2 w7 Hs7.o.src (by omega)).mono ?_;rintro e w8 ⟨y2,rfl,hs,h8,h9,-⟩;have h9:=h9 (by decide);have hex8:=zH (dW hs (show bk+1<=w7.heap.size by have:=Hs7.o.size;exact G9 hz6 this));have Hs8:=zH (Hs7.o.trans hs);have hz8:bk+1<=w8.heap.size:=G9 hz6 Hs8.o.size;have Ho8:=zH (Hs8.o.owns (bI (Hs6.o.owns Ho.o (by omega))) (by omega));generalize hbt:(y2==1)=bt;clear hs)
       |(refine(aU S n w6.drew Hsd.o (by omega)).mono ?_;rintro e w7 ⟨y1,rfl,hs,h6,h7,-⟩;have h7:=h7 (by omega);have hex7:=zH (dW hs (by show bk+1<=w6.heap.size;omega));have Hs7:=zH hs;clear hs))
      |(at_builtin;go_loud(refine aA rfl (.tmp 28) (.tmp 40) 58 rfl 105 (by kernel_rfl) kL rfl (by decide) (by decide) (bk+1) _ w8.heap.size [GX GZ 0,GW ⟨#[97]⟩,GX GZ y1,.bool bt] (HG w8 _) (G9 hz8 (by simp)) rfl (by intro u hu;simp at hu;rcases hu with rfl|rfl|rfl|rfl<;>rfl) (GU pa fs.length ca) fs.length xs rfl (ao Ho8.o ((Below.refl _ _).alloc (G8 _) _) (G8 _)) (by omega) rfl ?_);intro v9 w9 ho9 hf9;have hb9:=(hf9.below (G9 hz8 (by simp)) (by simp) fun g hg=>(Ho8.o.lt g hg).1);have hex9:=zH (show Hh (fun x=>x<bk+1/\x≠S.b) (w8.alloc (GY #[GX GZ 0,GW ⟨#[97]⟩,GX GZ y1,.bool bt] 105)) w9 from fH hb9);have Hb9:=zH (((Below.refl w8.heap.size w8).alloc (G8 _) (GY #[GX GZ 0,GW ⟨#[97]⟩,GX GZ y1,.bool bt] 105)).mono hz8|>.trans hb9);obtain⟨p9,c9,rfl⟩:=aB ho9;have Ho9:=zH ho9;have hB9:=(Hb9.o.block bx (by omega)).trans ((Hs8.o.block (by show bx<w6.heap.size;omega) Hxb.o).trans HB6.o);have HB9:=zH hB9;have HU:=zH (Upd.set (i:=5) (v:=GU p9 (fs.length+1) c9) (Upd.refl hB9));have hz0:w9.cell? ⟨bx,5,G0⟩=G5 (GU pa fs.length ca):=(by simp[Ic,hB9]);have hz1:w9.frozen? ⟨bx,5,G0⟩=false:=(by simp[IB,hB9]);clear ho9 hf9 hb9 hB9))
     have hBA:=HU.o.blk;refine⟨⟨1,fs++[⟨⟨0,⟨#[97]⟩⟩,y1,bt⟩],xs++[GX GZ 0,GW ⟨#[97]⟩,GX GZ y1,.bool bt],GU p9 (fs.length+1) c9,rfl,by omega,by rw[Ii];show fs.length+1<=_;omega,by simpa using hBA,by rw[Ii];exact bC Ho9.o HU.o (by omega),Hc.o.append (Ch.single rfl (show FC ⟨⟨0,⟨#[97]⟩⟩,y1,bt⟩ [GX GZ 0,GW ⟨#[97]⟩,GX GZ y1,.bool bt]from rfl)),?_,fun f hf=>?_,?_,?_,((H6.o.drew.trans Hs8.o).app (Hb9.o.mono (by omega))).app (HU.o.below (by omega))⟩,by simp[intOf]⟩
     ·rw[Jb];exact List.mem_append_right _ (IW.2 ⟨_,Hks.o,rfl⟩)
     ·rcases Ir.1 hf with hf|hf
      ·exact HN.o f hf
      ·rw[I7.1 hf];exact⟨h6,h7⟩
     ·exact(HU.o.other bk (by omega)).trans ((Hb9.o.block _ (by omega)).trans ((Hs8.o.block (by show bk<w6.heap.size;omega) Hkb.o).trans HK6.o))
     ·exact(HU.o.other w.heap.size (by omega)).trans ((Hb9.o.block _ (by omega)).trans ((Hs8.o.block (by show w.heap.size<w6.heap.size;omega) Hb.o).trans ((Hs6.o.block (by omega) Hb.o).trans HZr.o)))
   ·go_upto_region 7 with(go_at_call 14;refine(aU S 2 wq Hsr.o.src (by omega)).mono ?_;rintro e w6 ⟨y,rfl,hs,h4,h5,-⟩;have h5:=h5 (by decide);have Hs6:=zH hs;have H6:=zH (Hsr.o.trans hs);clear hs;rcases(show y=0\/y=1 by omega)with rfl|rfl)
    ·refine⟨⟨2,fs,xs,GU pa fs.length ca,rfl,by omega,by omega,(Hs6.o.block (by omega) Hxb.o).trans HBr.o,Hs6.o.owns Ho.o (by omega),Hc.o,?_,HN.o,(Hs6.o.block (by omega) Hkb.o).trans HKr.o,(Hs6.o.block (by omega) Hb.o).trans HZr.o,H6.o⟩,by simp[intOf]⟩;exact JD _ Hks.o
    ·have HB6:=zH ((Hs6.o.block (by omega) Hxb.o).trans HBr.o);have HK6:=zH ((Hs6.o.block (by omega) Hkb.o).trans HKr.o);have hz6:bk+1<=w6.heap.size:=ai HK6.o;have g5:w6.cell? ⟨bx,5,G0⟩=G5 (GU pa fs.length ca):=(by simp[Ic,HB6.o])
     have k0:w6.cell? ⟨bk,2,G0⟩=G5 (GX GZ 0):=(by simp[Ic,HK6.o])
     have k1:w6.cell? ⟨bk,3,G0⟩=G5 (GW ⟨#[98]⟩):=(by simp[Ic,HK6.o])
     have YX:=zH (show w6.drew.cell? ⟨bx,5,G0⟩=_ from g5);have YK:=zH (show w6.drew.cell? ⟨bk,2,G0⟩=_ from k0);have Hsd:=zH H6.o.src.drew;go_wp2_with(first
      |((with_reducible refine Lex.aP ?_);refine fE (by repeat first|exact JW|refine JU rfl ?_|refine JT (by decide+kernel) ?_|refine JP rfl ⟨by omega,Hxb.o⟩ YX.o ?_|refine JP rfl ⟨by omega,Hkb.o⟩ YK.o ?_) ?_)
      |((with_reducible refine Lex.aI ?_);refine gL (fun x=>x<bk+1/\x≠S.b) ?_)
      |(with_reducible first|refine qH ?_|refine JV ?_|refine JY ?_)
      |((with_reducible refine Lex.aX ?_);first|(refine JQ hex7.o ?_)|(refine JQ hex8.o ?_)|(refine JQ hex9.o ?_)|(refine JQ (IF _ _) ?_)|(refine JQ (Is _) ?_))
      |(go_at_call 14;first
       |(refine(aU S 2 w7 Hs7.o.src (by omega)).mono ?_;rintro e w8 ⟨y2,rfl,hs,h8,h9,-⟩;have h9:=h9 (by decide);have hex8:=zH (dW hs (show bk+1<=w7.heap.size by have:=Hs7.o.size;exact G9 hz6 this));have Hs8:=zH (Hs7.o.trans hs);have hz8:bk+1<=w8.heap.size:=G9 hz6 Hs8.o.size;have Ho8:=zH (Hs8.o.owns (bI (Hs6.o.owns Ho.o (by omega))) (by omega));generalize hbt:(y2==1)=bt;clear hs)
       |(refine(aU S n w6.drew Hsd.o (by omega)).mono ?_;rintro e w7 ⟨y1,rfl,hs,h6,h7,-⟩;have h7:=h7 (by omega);have hex7:=zH (dW hs (by show bk+1<=w6.heap.size;omega));have Hs7:=zH hs;clear hs))
      |(at_builtin;go_loud(refine aA rfl (.tmp 28) (.tmp 40) 58 rfl 105 (by kernel_rfl) kL rfl (by decide) (by decide) (bk+1) _ w8.heap.size [GX GZ 0,GW ⟨#[98]⟩,GX GZ y1,.bool bt] (HG w8 _) (G9 hz8 (by simp)) rfl (by intro u hu;simp at hu;rcases hu with rfl|rfl|rfl|rfl<;>rfl) (GU pa fs.length ca) fs.length xs rfl (ao Ho8.o ((Below.refl _ _).alloc (G8 _) _) (G8 _)) (by omega) rfl ?_);intro v9 w9 ho9 hf9;have hb9:=(hf9.below (G9 hz8 (by simp)) (by simp) fun g hg=>(Ho8.o.lt g hg).1);have hex9:=zH (show Hh (fun x=>x<bk+1/\x≠S.b) (w8.alloc (GY #[GX GZ 0,GW ⟨#[98]⟩,GX GZ y1,.bool bt] 105)) w9 from fH hb9);have Hb9:=zH (((Below.refl w8.heap.size w8).alloc (G8 _) (GY #[GX GZ 0,GW ⟨#[98]⟩,GX GZ y1,.bool bt] 105)).mono hz8|>.trans hb9);obtain⟨p9,c9,rfl⟩:=aB ho9;have Ho9:=zH ho9;have hB9:=(Hb9.o.block bx (by omega)).trans ((Hs8.o.block (by show bx<w6.heap.size;omega) Hxb.o).trans HB6.o);have HB9:=zH hB9;have HU:=zH (Upd.set (i:=5) (v:=GU p9 (fs.length+1) c9) (Upd.refl hB9));have hz0:w9.cell? ⟨bx,5,G0⟩=G5 (GU pa fs.length ca):=(by simp[Ic,hB9]);have hz1:w9.frozen? ⟨bx,5,G0⟩=false:=(by simp[IB,hB9]);clear ho9 hf9 hb9 hB9))
     have hBA:=HU.o.blk;refine⟨⟨2,fs++[⟨⟨0,⟨#[98]⟩⟩,y1,bt⟩],xs++[GX GZ 0,GW ⟨#[98]⟩,GX GZ y1,.bool bt],GU p9 (fs.length+1) c9,rfl,by omega,by rw[Ii];show fs.length+1<=_;omega,by simpa using hBA,by rw[Ii];exact bC Ho9.o HU.o (by omega),Hc.o.append (Ch.single rfl (show FC ⟨⟨0,⟨#[98]⟩⟩,y1,bt⟩ [GX GZ 0,GW ⟨#[98]⟩,GX GZ y1,.bool bt]from rfl)),?_,fun f hf=>?_,?_,?_,((H6.o.drew.trans Hs8.o).app (Hb9.o.mono (by omega))).app (HU.o.below (by omega))⟩,by simp[intOf]⟩
     ·rw[Jb];exact List.mem_append_right _ (IW.2 ⟨_,Hks.o,rfl⟩)
     ·rcases Ir.1 hf with hf|hf
      ·exact HN.o f hf
      ·rw[I7.1 hf];exact⟨h6,h7⟩
     ·exact(HU.o.other bk (by omega)).trans ((Hb9.o.block _ (by omega)).trans ((Hs8.o.block (by show bk<w6.heap.size;omega) Hkb.o).trans HK6.o))
     ·exact(HU.o.other w.heap.size (by omega)).trans ((Hb9.o.block _ (by omega)).trans ((Hs8.o.block (by show w.heap.size<w6.heap.size;omega) Hb.o).trans ((Hs6.o.block (by omega) Hb.o).trans HZr.o)))
   ·go_upto_region 7 with(go_at_call 14;refine(aU S 2 wq Hsr.o.src (by omega)).mono ?_;rintro e w6 ⟨y,rfl,hs,h4,h5,-⟩;have h5:=h5 (by decide);have Hs6:=zH hs;have H6:=zH (Hsr.o.trans hs);clear hs;rcases(show y=0\/y=1 by omega)with rfl|rfl)
    ·refine⟨⟨3,fs,xs,GU pa fs.length ca,rfl,by omega,by omega,(Hs6.o.block (by omega) Hxb.o).trans HBr.o,Hs6.o.owns Ho.o (by omega),Hc.o,?_,HN.o,(Hs6.o.block (by omega) Hkb.o).trans HKr.o,(Hs6.o.block (by omega) Hb.o).trans HZr.o,H6.o⟩,by simp[intOf]⟩;exact JD _ Hks.o
    ·have HB6:=zH ((Hs6.o.block (by omega) Hxb.o).trans HBr.o);have HK6:=zH ((Hs6.o.block (by omega) Hkb.o).trans HKr.o);have hz6:bk+1<=w6.heap.size:=ai HK6.o;have g5:w6.cell? ⟨bx,5,G0⟩=G5 (GU pa fs.length ca):=(by simp[Ic,HB6.o])
     have k0:w6.cell? ⟨bk,4,G0⟩=G5 (GX GZ 1):=(by simp[Ic,HK6.o])
     have k1:w6.cell? ⟨bk,5,G0⟩=G5 (GW ⟨#[115]⟩):=(by simp[Ic,HK6.o])
     have YX:=zH (show w6.drew.cell? ⟨bx,5,G0⟩=_ from g5);have YK:=zH (show w6.drew.cell? ⟨bk,4,G0⟩=_ from k0);have Hsd:=zH H6.o.src.drew;go_wp2_with(first
      |((with_reducible refine Lex.aP ?_);refine fE (by repeat first|exact JW|refine JU rfl ?_|refine JT (by decide+kernel) ?_|refine JP rfl ⟨by omega,Hxb.o⟩ YX.o ?_|refine JP rfl ⟨by omega,Hkb.o⟩ YK.o ?_) ?_)
      |((with_reducible refine Lex.aI ?_);refine gL (fun x=>x<bk+1/\x≠S.b) ?_)
      |(with_reducible first|refine qH ?_|refine JV ?_|refine JY ?_)
      |((with_reducible refine Lex.aX ?_);first|(refine JQ hex7.o ?_)|(refine JQ hex8.o ?_)|(refine JQ hex9.o ?_)|(refine JQ (IF _ _) ?_)|(refine JQ (Is _) ?_))
      |(go_at_call 14;first
       |(refine(aU S 2 w7 Hs7.o.src (by omega)).mono ?_;rintro e w8 ⟨y2,rfl,hs,h8,h9,-⟩;have h9:=h9 (by decide);have hex8:=zH (dW hs (show bk+1<=w7.heap.size by have:=Hs7.o.size;exact G9 hz6 this));have Hs8:=zH (Hs7.o.trans hs);have hz8:bk+1<=w8.heap.size:=G9 hz6 Hs8.o.size;have Ho8:=zH (Hs8.o.owns (bI (Hs6.o.owns Ho.o (by omega))) (by omega));generalize hbt:(y2==1)=bt;clear hs)
       |(refine(aU S n w6.drew Hsd.o (by omega)).mono ?_;rintro e w7 ⟨y1,rfl,hs,h6,h7,-⟩;have h7:=h7 (by omega);have hex7:=zH (dW hs (by show bk+1<=w6.heap.size;omega));have Hs7:=zH hs;clear hs))
      |(at_builtin;go_loud(refine aA rfl (.tmp 28) (.tmp 40) 58 rfl 105 (by kernel_rfl) kL rfl (by decide) (by decide) (bk+1) _ w8.heap.size [GX GZ 1,GW ⟨#[115]⟩,GX GZ y1,.bool bt] (HG w8 _) (G9 hz8 (by simp)) rfl (by intro u hu;simp at hu;rcases hu with rfl|rfl|rfl|rfl<;>rfl) (GU pa fs.length ca) fs.length xs rfl (ao Ho8.o ((Below.refl _ _).alloc (G8 _) _) (G8 _)) (by omega) rfl ?_);intro v9 w9 ho9 hf9;have hb9:=(hf9.below (G9 hz8 (by simp)) (by simp) fun g hg=>(Ho8.o.lt g hg).1);have hex9:=zH (show Hh (fun x=>x<bk+1/\x≠S.b) (w8.alloc (GY #[GX GZ 1,GW ⟨#[115]⟩,GX GZ y1,.bool bt] 105)) w9 from fH hb9);have Hb9:=zH (((Below.refl w8.heap.size w8).alloc (G8 _) (GY #[GX GZ 1,GW ⟨#[115]⟩,GX GZ y1,.bool bt] 105)).mono hz8|>.trans hb9);obtain⟨p9,c9,rfl⟩:=aB ho9;have Ho9:=zH ho9;have hB9:=(Hb9.o.block bx (by omega)).trans ((Hs8.o.block (by show bx<w6.heap.size;omega) Hxb.o).trans HB6.o);have HB9:=zH hB9;have HU:=zH (Upd.set (i:=5) (v:=GU p9 (fs.length+1) c9) (Upd.refl hB9));have hz0:w9.cell? ⟨bx,5,G0⟩=G5 (GU pa fs.length ca):=(by simp[Ic,hB9]);have hz1:w9.frozen? ⟨bx,5,G0⟩=false:=(by simp[IB,hB9]);clear ho9 hf9 hb9 hB9))
     have hBA:=HU.o.blk;refine⟨⟨3,fs++[⟨⟨1,⟨#[115]⟩⟩,y1,bt⟩],xs++[GX GZ 1,GW ⟨#[115]⟩,GX GZ y1,.bool bt],GU p9 (fs.length+1) c9,rfl,by omega,by rw[Ii];show fs.length+1<=_;omega,by simpa using hBA,by rw[Ii];exact bC Ho9.o HU.o (by omega),Hc.o.append (Ch.single rfl (show FC ⟨⟨1,⟨#[115]⟩⟩,y1,bt⟩ [GX GZ 1,GW ⟨#[115]⟩,GX GZ y1,.bool bt]from rfl)),?_,fun f hf=>?_,?_,?_,((H6.o.drew.trans Hs8.o).app (Hb9.o.mono (by omega))).app (HU.o.below (by omega))⟩,by simp[intOf]⟩
     ·rw[Jb];exact List.mem_append_right _ (IW.2 ⟨_,Hks.o,rfl⟩)
     ·rcases Ir.1 hf with hf|hf
      ·exact HN.o f hf
      ·rw[I7.1 hf];exact⟨h6,h7⟩
     ·exact(HU.o.other bk (by omega)).trans ((Hb9.o.block _ (by omega)).trans ((Hs8.o.block (by show bk<w6.heap.size;omega) Hkb.o).trans HK6.o))
     ·exact(HU.o.other w.heap.size (by omega)).trans ((Hb9.o.block _ (by omega)).trans ((Hs8.o.block (by show w.heap.size<w6.heap.size;omega) Hb.o).trans ((Hs6.o.block (by omega) Hb.o).trans HZr.o)))
  ·obtain rfl:i=3:=by omega
   obtain⟨⟨g0,g1,g2,g3⟩,g4,g5,g6,g7⟩:=aY hBr;clear hBr ho hc hks hN hKr hZr hsr;go_wp2_with(with_reducible refine sR rfl 61 (.tmp 4) (.tmp 43) rfl rfl rfl HZr.o ?_);refine rB rfl w.heap.size 61 rfl (sH HZr.o) rfl rfl rfl ?_;obtain⟨pz,cz,ez,hrw⟩:=bu (bJ Ho.o (bh _)) Hc.o (by omega);injection ez with ez1 _ ez3
   subst ez1 ez3;exact⟨_,⟨13,0,0,aQ,[],fs,r0,r1⟩,rfl,fV ⟨G0,0,_,_,rfl,IS.nil' _,hrw⟩ (show lo (bk+1) w.heap.size=G6 by simp[lo];omega) (fun k hk=>by simp[lo];omega) _,⟨rfl,rfl,rfl,rfl,rfl,Hks.o,HN.o,⟨h0,h1⟩,h2,h3⟩,Hsr.o.row (G8 _) Hb.o _⟩
end Go.Proofs.YtfpahmeploondaaGreatDoor
