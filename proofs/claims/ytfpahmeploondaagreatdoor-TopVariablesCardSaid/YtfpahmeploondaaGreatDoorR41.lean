/- Walks and plain facts for the law on type variables, for all values and types that the heap holds (texts Ej Ek El Em En Eo). -/
import Derived.Laws.AppendOwn
import Derived.Test.YtfpahmeploondaaGreatDoorR03
import Derived.Test.YtfpahmeploondaaGreatDoorR40
set_option linter.unusedVariables false
set_option linter.unusedSimpArgs false
set_option maxHeartbeats 64000000
open Option renaming none -> G0, some -> G5
open Bool renaming true -> G6, false -> G7
open List renaming length_append -> Ii, length_take -> IN, length_drop -> I4
open Bool renaming eq_false_iff -> IA, eq_iff_iff -> IQ, rec -> Hj
open Go.Builtin renaming append_ -> Jp
open Go renaming run_underlying -> IM, MapEntry -> IJ, Program -> Ia, Operand -> Ie
open Nat renaming le_trans -> G9, le_refl -> G8, beq_eq -> I1, beq -> Ib
open Go.Sem renaming run_bind -> It
open Option renaming rec -> Iv
open Go.Next renaming value -> IU
namespace Go.Ev
set_option linter.unusedSectionVars false
variable {α β γ:Type} {p q:Rho} {P:Ia}
theorem lX {ik:IntKind}{k y:Nat}{c:BoundsCode}{w:World}(h:k<=y):(Instr.sliceBound (.int ik (k:Int)) y c).run P w=.ok k w:=by
 have h':(0:Int)<=k/\(k:Int)<=(y:Int):=⟨by omega,by omega⟩
 simp[Instr.sliceBound,asIntOf,h]
theorem dK {a b:Nat}(h:Nat.ble a b=G6):a<=b:=by rw[Nat.ble_eq]at h;exact h
theorem dQ {a b:Nat}(h:Ib a b=G6):a=b:=by rw[I1]at h;exact h
theorem gK {a b:Nat}(h:Nat.blt a b=G6):a<b:=by rw[Nat.blt_eq]at h;exact h
section
variable {call:bU} {a:Act} {b:A} {h g:H} {w:World} {o:Oper} {u:Value} (A':AR p a b) (H':HR p h w.heap)
include A' H'
theorem pw {t:TypeId}{l c:Ie}(e:fY t l c P call b h o=.ok (.mk u g)):Fin p h w ((do pure (IU (<-Instr.makeSlice t (a.eval l) (a.eval c))):Sem Next).run P w) u g:=by
 obtain⟨el,e1,e⟩:=R.b_ok e;obtain⟨ti,e2,e⟩:=R.b_ok e;obtain⟨ln,e3,e⟩:=R.b_ok e;obtain⟨cp,e4,e⟩:=R.b_ok e;obtain⟨e5,e⟩:=aT e;obtain⟨e6,e⟩:=aT e;obtain⟨rfl,rfl⟩:=bP e;obtain⟨i,v,h1,h2,h3,h4,h5,h6,h7⟩:=Bd e2;have e5:=dK e5;have e6:=dK e6;obtain⟨kl,f1⟩:=jb e3;obtain⟨kc,f2⟩:=jb e4;have vl:=A'.eval l;have vc:=A'.eval c;rw[f1]at vl;rw[f2]at vc;rw[vl.same rfl,vc.same rfl];have hz:v.cells.size=i.size:=by rw[h3,<-h5,h4];simp
 have hm:=xl v.cells cp;rw[<-h4,hz,<-rF]at hm;have hb:(i.bytes:Int)*(cp:Int)<=281474976710656:=by
  have:i.bytes*cp<=1048576*1048576:=Nat.mul_le_mul h6 e6;have h':((i.bytes*cp:Nat):Int)<=281474976710656:=by omega
  rwa[Int.natCast_mul]at h'
 have hr:=run_make (P:=P) w t el i v (jy (bF e1)) h1 h2 kl kc ln cp (by omega) (by omega) hb (by omega);simp only[Int.toNat_natCast]at hr;rw[hm]at hr;refine xm A' H' (c:=rep cp ti.z) ?_ hr;rw[rF];exact(h7 p).join cp
theorem rG {x:Ie}{k:Nat}(e:fB (b.ev x)=.ok k):∃ik,a.eval x=.int ik (k:Int):=by
 obtain⟨ik,f⟩:=jb e;have v:=A'.eval x;rw[f]at v;exact⟨ik,v.same rfl⟩
theorem dM {lo hi mx:Option Ie}{ln cap l hh m:Nat}(hl:i8 0 b lo=.ok l)(hh':i8 ln b hi=.ok hh)(hm:(mx=G0/\m=cap)\/∃y,mx=G5 y/\hi.isSome=G6/\fB (b.ev y)=.ok m)(h1:l<=hh)(h2:hh<=m)(h3:m<=cap):
 (Instr.sliceBounds G6 ln cap (lo.map a.eval) (hi.map a.eval) (mx.map a.eval)).run P w=.ok (l,hh,m) w:=by
 unfold Instr.sliceBounds;have key:∀(m:Nat) (h2:hh<=m) (cd:BoundsCode),(match(hi.map a.eval)with|some v=>Instr.sliceBound v m cd|none=>pure ln:Sem Nat).run P w=.ok hh w:=by
  intro m h2 cd;cases hi with
  |none=>cases hh';rfl
  | some y =>
    obtain⟨ik,f⟩:=rG A' H' (show fB (b.ev y)=.ok hh from hh');simp only[Option.map_some,f];exact lX h2
 have klo:∀cd:BoundsCode,(match(lo.map a.eval)with|some v=>Instr.sliceBound v hh cd|none=>pure 0:Sem Nat).run P w=.ok l w:=by
  intro cd;cases lo with
  |none=>cases hl;rfl
  | some y =>
    obtain⟨ik,f⟩:=rG A' H' (show fB (b.ev y)=.ok l from hl);simp only[Option.map_some,f];exact lX h1
 rcases hm with⟨rfl,rfl⟩|⟨y,rfl,hs,hm⟩
 ·have k1:=key m h2 .sliceAcap;have k2:=klo .sliceB;cases hi<;>cases lo<;>simp_all
 ·obtain⟨ik,f⟩:=rG A' H' hm;have k0:=lX (P:=P) (ik:=ik) (c:=.slice3Acap) (w:=w) h3;have k1:=key m h2 .slice3B;have k2:=klo .slice3C;cases hi with
  |none=>cases hs
  |some z=>cases lo<;>simp_all
theorem yT {t:TypeId}{x:Ie}{lo hi mx:Option Ie}{s:SL}(hs:fJ (b.ev x)=G5 s)(e:same h (rq P t b lo hi mx s)=.ok (.mk u g)):
 Fin p h w ((do pure (IU (<-Instr.sliceAt t (a.eval x) (lo.map a.eval) (hi.map a.eval) (mx.map a.eval))):Sem Next).run P w) u g:=by
 obtain⟨e0,rfl⟩:=gx e;clear e;obtain⟨es,e1,e⟩:=R.b_ok e0;obtain⟨l,e2,e⟩:=R.b_ok e;obtain⟨hh,e3,e⟩:=R.b_ok e;obtain⟨el,inf,hu,hi',hsz⟩:=Bb (bF e1);have vx:=A'.eval x;rw[fM hs]at vx;have run:∀(ad:Option Addr) (c m:Nat),(Instr.sliceBounds G6 s.len c (lo.map a.eval) (hi.map a.eval) (mx.map a.eval)).run P w=.ok (l,hh,m) w->
  (Instr.sliceAt t (.slice ad s.len c) (lo.map a.eval) (hi.map a.eval) (mx.map a.eval)).run P w=.ok (.slice (if m=l then ad else ad.map (fun a:Addr=>a.add (l*es))) (hh-l) (m-l)) w:=fun ad c m hb=>by
  simp[Instr.sliceAt,Instr.slice,IM hu,hb,sizeOf,typeInfo,hi',hsz]
 cases mx with
 | none =>
   obtain⟨e4,e⟩:=aT e;obtain⟨e5,e⟩:=aT e;have e4:=dK e4;have e5:=dK e5;cases hsa:s.a with
   | none =>
     rw[hsa]at e vx;cases e;generalize a.eval x=v at*
     cases vx with|sl0=>
     have hb:=dM (P:=P) (mx:=G0) A' H' e2 e3 (.inl ⟨rfl,rfl⟩) e4 e5 (G8 s.cap);refine bK H' (run _ _ _ hb) ?_;have:(if s.cap=l then(G0:Option Addr)else Option.map (fun a:Addr=>a.add (l*es)) G0)=none:=by split<;>rfl
     rw[this];exact .sl0 _ _
   | some ad =>
     obtain⟨i,off,sp⟩:=ad;rw[hsa]at e vx;have e:(Hj (motive:=fun _=>R Value) (.ok (.slice (G5 ⟨i,Nat.add off (Nat.mul l es),sp⟩) (Nat.sub hh l) (Nat.sub s.cap l)))
      (Iv (motive:=fun _=>R Value) (.ok (.slice (G5 ⟨i,off,G0⟩) (Nat.sub hh l) (Nat.sub s.cap l))) (fun _=>.error ()) sp) (Hj (motive:=fun _=>Bool) (Ib l s.cap) G7 (Ib l 0)))=.ok u:=e
     generalize a.eval x=v at*
     by_cases hl0:l=0
     ·subst hl0;have hz:Ib 0 0=true:=rfl;simp only[hz]at e;cases e;cases vx with
      | @sl _ _ _ _ rb hp =>
        have hb:=dM (P:=P) (mx:=G0) A' H' e2 e3 (.inl ⟨rfl,rfl⟩) e4 e5 (G8 s.cap);refine bK H' (run _ _ _ hb) ?_;have:(if s.cap=0 then(G5 ⟨rb.r,rb.o+off,G0⟩:Option Addr)else Option.map (fun a:Addr=>a.add (0*es)) (G5 ⟨rb.r,rb.o+off,G0⟩))=G5 ⟨rb.r,rb.o+(off+0*es),G0⟩:=by
         rw[Nat.zero_mul];split<;>rfl
        rw[this];exact .sl hp
      | @slo _ _ _ _ _ rb hp =>
        have hb:=dM (P:=P) (mx:=G0) A' H' e2 e3 (.inl ⟨rfl,rfl⟩) e4 (G9 e5 (Nat.le_add_right s.cap rb.k)) (G8 _);refine bK H' (run _ _ _ hb) ?_;have:(if s.cap+rb.k=0 then(G5 ⟨rb.r,rb.o+off,G0⟩:Option Addr)else Option.map (fun a:Addr=>a.add (0*es)) (G5 ⟨rb.r,rb.o+off,G0⟩))=G5 ⟨rb.r,rb.o+(off+0*es),G0⟩:=by
         rw[Nat.zero_mul];split<;>rfl
        rw[this];exact .slo hp
     ·have hz:Ib l 0=false:=by rw[IA];intro k;exact hl0 (dQ k)
      simp only[hz]at e;cases hc:Ib l s.cap with
      | true =>
        have hc':=dQ hc;simp only[hc]at e;cases vx with
        | @sl _ _ _ _ rb hp =>
          cases e;have hb:=dM (P:=P) (mx:=G0) A' H' e2 e3 (.inl ⟨rfl,rfl⟩) e4 e5 (G8 s.cap);refine bK H' (run _ _ _ hb) ?_;rw[if_pos hc'.symm];exact .sl hp
        |slo hp=>cases e
      | false =>
        have hc':l≠s.cap:=fun k=>by subst k;rw[show Ib s.cap s.cap=G6 by rw[I1]]at hc;cases hc
        simp only[hc]at e;cases e;cases vx with
        | @sl _ _ _ _ rb hp =>
          have hb:=dM (P:=P) (mx:=G0) A' H' e2 e3 (.inl ⟨rfl,rfl⟩) e4 e5 (G8 s.cap);refine bK H' (run _ _ _ hb) ?_;rw[if_neg (fun k=>hc' k.symm)];simp only[Option.map_some,gy];exact .sl hp
        | @slo _ _ _ _ _ rb hp =>
          have hb:=dM (P:=P) (mx:=G0) A' H' e2 e3 (.inl ⟨rfl,rfl⟩) e4 (G9 e5 (Nat.le_add_right s.cap rb.k)) (G8 _);refine bK H' (run _ _ _ hb) ?_;rw[if_neg (by omega)];simp only[Option.map_some,gy];have hk:s.cap+rb.k-l=(s.cap-l)+rb.k:=by omega
          rw[hk];exact .slo hp
 | some y =>
   obtain⟨z,e4,e⟩:=R.b_ok e;obtain⟨m,e5,e⟩:=R.b_ok e;obtain⟨e6,e⟩:=aT e;obtain⟨e7,e⟩:=aT e;obtain⟨e8,e⟩:=aT e;have e6:=dK e6;have e7:=dK e7;have e8:=dK e8;cases e;have hsm:hi.isSome=true:=by rw[bF e4];rfl
   have hmx:((G5 y:Option Ie)=G0/\m=s.cap)\/∃y',(G5 y:Option Ie)=G5 y'/\hi.isSome=G6/\fB (b.ev y')=.ok m:=.inr ⟨y,rfl,hsm,e5⟩;generalize hv:a.eval x=v at*
   have done:∀(rb:RB) (i off:Nat) (c:Nat) (sp:Option Nat),p i=G5 rb->m<=c->s.a=G5 ⟨i,off,sp⟩->v=.slice (G5 ⟨rb.r,rb.o+off,G0⟩) s.len c->Fin p g w ((do pure (IU (<-Instr.sliceAt t v (lo.map a.eval) (hi.map a.eval) ((G5 y).map a.eval))):Sem Next).run P w) (.slice (Option.map (AL es l m) s.a) (Nat.sub hh l) (Nat.sub m l)) g:=by
    rintro rb i off c sp hp hmc hsa rfl;have hb:=dM (P:=P) A' H' e2 e3 (.inr ⟨y,rfl,hsm,e5⟩) e6 e7 hmc;refine bK H' (run _ _ _ hb) ?_;rw[hsa];show VR p _ (.slice (G5 ⟨i,Hj (Nat.add off (Nat.mul l es)) off (Ib m l),G0⟩) (hh-l) (m-l));by_cases hml:m=l
    ·have hz:Ib m l=true:=by rw[I1];exact hml
     rw[if_pos hml];simp only[hz];exact .sl hp
    ·have hz:Ib m l=false:=by rw[IA];intro k;exact hml (dQ k)
     rw[if_neg hml];simp only[hz,Option.map_some,gy];exact .sl hp
   cases hsa:s.a with
   | none =>
     rw[hsa]at vx;cases vx with|sl0=>
     have hb:=dM (P:=P) A' H' e2 e3 (.inr ⟨y,rfl,hsm,e5⟩) e6 e7 e8;refine bK H' (run _ _ _ hb) ?_;have:(if m=l then(G0:Option Addr)else Option.map (fun a:Addr=>a.add (l*es)) G0)=none:=by split<;>rfl
     rw[this];exact .sl0 _ _
   | some ad =>
     obtain⟨i,off,sp⟩:=ad;rw[<-hsa];rw[hsa]at vx;cases vx with
     |sl hp=>exact done _ i off _ _ hp e8 hsa rfl
     |slo hp=>exact done _ i off _ _ hp (G9 e8 (Nat.le_add_right _ _)) hsa rfl
end
end Go.Ev
namespace Go.Ev
set_option linter.unusedSectionVars false
variable {α β γ:Type} {p q:Rho} {P:Ia}
theorem lh {ts:Array TypeId}{t:TypeId}(h:qd ts.toList=.ok t):ts[0]? =G5 t:=by
 obtain⟨l⟩:=ts;cases l with
 |nil=>cases h
 |cons x r=>cases h;rfl
theorem gZ {h:H}{hp:Array Obj}(H':HR p h hp){i off n:Nat}{r:Row}(e:h.row i=.ok r){rb:RB}(hx:p i=G5 rb){new:List Value}(hc:cut r.vs off n=.ok new):
 ∃c,VRs p c new/\c.length=n/\∀w:World,w.heap=hp->(loadCells ⟨rb.r,rb.o+off,G0⟩ n).run P w=.ok c.toArray w:=by
 obtain⟨x',pre,l,post,f,e3,e4,e5,e6,_,_⟩:=H'.row e;rw[hx]at e3;cases e3;obtain⟨e9,rfl⟩:=lV hc;have hlen:((l.drop off).take n).length=n:=by rw[IN,I4,e6.length];omega
 refine⟨(l.drop off).take n,(e6.drop off).take n,hlen,fun w hw=>?_⟩;subst hw;have hl:=run_loadCells_list (P:=P) w ⟨rb.r,rb.o+off,G0⟩ ((l.drop off).take n) (fun j u hj=>by
  rw[rz,Nat.add_assoc];refine cell_at (w:=w) e4 e5 ?_;have hjn:j<n:=by have:=(List.getElem?_eq_some_iff.1 hj).1;omega
  rw[List.getElem?_take_of_lt hjn,List.getElem?_drop]at hj;exact hj)
 rw[hlen]at hl;exact hl
theorem yU {h:H}{hp:Array Obj}(H':HR p h hp){es:Nat}{v u:Value}(hv:VR p v u){y:Src}{new:List Value}(e:Fb h es u=.ok y)(en:y.l=.ok new):
 (∀w:World,(Builtin.lenOf v).run P w=.ok y.n w)/\∃c,VRs p c new/\c.length=y.n*es/\∀w:World,w.heap=hp->(Builtin.firstCells es y.n v).run P w=.ok c.toArray w:=by
 unfold Fb at e;cases hs:fJ u with
 | none =>
   rw[hs]at e;cases ht:xd u with
   |none=>rw[ht]at e;cases e
   | some s =>
     rw[ht]at e;obtain⟨he,e⟩:=aT (show bp (Ib es 1) _=.ok y from e);cases e;cases en;rw[A6 ht]at hv;rw[hv.same rfl];have he:=dQ he;subst he;refine⟨fun w=>rfl,s.data.toList.map AM,?_,by rw[List.length_map,Nat.mul_one];exact Array.length_toList,fun w _=>?_⟩
     ·generalize s.data.toList=l
      induction l with
      |nil=>exact .nil
      |cons x r ih=>exact .cons (.int _ _) ih
     ·have e1:s.extract 0 s.size=s:=ByteArray.extract_zero_size;simp[Builtin.firstCells,e1];apply Array.ext';simp[AM,Function.comp_def]
 | some s =>
   rw[hs]at e;cases e;have hu:=fM hs;rw[hu]at hv;have en:ju h es s.len s.a=.ok new:=en;unfold ju at en;cases hsa:s.a with
   | none =>
     rw[hsa]at en hv;obtain⟨e0,en⟩:=aT (show bp (Ib s.len 0) (.ok [])=.ok new from en);cases en;have e0:=dQ e0;cases hv with|sl0=>
     exact⟨fun w=>rfl,[],.nil,by rw[e0];simp,fun w _=>rfl⟩
   | some ad =>
     obtain⟨i,off,sp⟩:=ad;rw[hsa]at en hv;have en:R.b (h.row i) (fun r=>cut r.vs off (Nat.mul s.len es))=.ok new:=en;obtain⟨r,e1,en2⟩:=R.b_ok en;cases hv with
     | @sl _ _ _ _ rb hp' =>
       obtain⟨c,k1,k2,k3⟩:=gZ (P:=P) H' e1 hp' en2;exact⟨fun w=>rfl,c,k1,k2,fun w hw=>k3 w hw⟩
     | @slo _ _ _ _ _ rb hp' =>
       obtain⟨c,k1,k2,k3⟩:=gZ (P:=P) H' e1 hp' en2;exact⟨fun w=>rfl,c,k1,k2,fun w hw=>k3 w hw⟩
end Go.Ev
namespace Go.Ev
set_option linter.unusedSectionVars false
variable {α β γ:Type} {p q:Rho} {P:Ia}
section
variable {ts:Array TypeId} {ty t e:TypeId} {i:TypeInfo} {v:Value} {n:Nat} {c:List Value} {w:World} (ht:ts[0]? =G5 t) (hu:P.underlying t=G5 (.slice e)) (hi:P.info? e=G5 i) (hs:AW P ts=G6)
 (hl:∀w:World,(Builtin.lenOf v).run P w=.ok n w) (hc:∀w':World,w'.heap=w.heap->(Builtin.firstCells i.size n v).run P w'=.ok c.toArray w')
theorem yV(h:AW P ts=G6):ts[1]? =G0\/∃x d,ts[1]? =G5 x/\P.underlying x=G5 d/\(match d with| .int _=>G6|_=>G7)=false:=by
 unfold AW at h;cases h1:ts[1]?with
 |none=>exact .inl rfl
 | some x =>
   rw[h1]at h;simp only at h;cases hx:P.underlying x with
   |none=>rw[hx]at h;cases h
   | some d =>
     rw[hx]at h;refine .inr ⟨x,d,rfl,hx,?_⟩;cases d<;>first|rfl|cases h
omit hi hl hc in
theorem lZ(ht:ts[0]? =G5 t)(hu:P.underlying t=G5 (.slice e))(hs:AW P ts=G6)(b:Option Addr)(sLen sCap:Nat)(v:Value)(w:World):(Jp ts ty #[.slice b sLen sCap,v]).run P w=(Jp #[t] ty #[.slice b sLen sCap,v]).run P w:=by
 have h0:(#[t]:Array TypeId)[0]? =G5 t:=rfl;have h9:(#[t]:Array TypeId)[1]? =none:=rfl;have a0:(#[.slice b sLen sCap,v]:Array Value)[0]? =G5 (.slice b sLen sCap):=rfl;have a1:(#[.slice b sLen sCap,v]:Array Value)[1]? =G5 v:=rfl;rcases yV hs with h1|⟨x,d,h1,hd,hdm⟩
 ·unfold Jp;simp only[ht,h1,h0,h9,a0,a1]
 ·unfold Jp;simp only[ht,h1,h0,h9,a0,a1,It,IM hu,IM hd,Result.andThen_ok];cases d<;>first|(cases hdm;done)|rfl
include ht hu hi hs hl hc
theorem tS {a:Addr}{sLen sCap:Nat}(hn:sLen+n<=sCap){w':World}(hst:(storeCells (a.add (sLen*i.size)) c).run P w=.ok () w'):
 (Jp ts ty #[.slice (G5 a) sLen sCap,v]).run P w=.ok (.slice (G5 a) (sLen+n) sCap) w':=by
 have hc0:=hc w rfl;rw[lZ ht hu hs];simp[Jp,IM hu,sizeOf,typeInfo,hi,hl w,hn,hc0,hst]
theorem Be {b:Option Addr}{sLen sCap:Nat}(h0:n=0)(hlen:c.length=n*i.size)(hn:sLen<=sCap):
 (Jp ts ty #[.slice b sLen sCap,v]).run P w=.ok (.slice b sLen sCap) w:=by
 have hc0:=hc w rfl;subst h0;have hcn:c=[]:=List.eq_nil_of_length_eq_zero (by simpa using hlen);subst hcn;rw[lZ ht hu hs];cases b<;>simp[Jp,IM hu,sizeOf,typeInfo,hi,hl w,hn,hc0,storeCells]
theorem Bf {b:Option Addr}{sLen sCap:Nat}{z:Value}(hz:i.zero=G5 z)(hn:sCap<sLen+n)(hsm:sLen+n<=1048576)(hb:i.bytes<=1048576){old:List Value}(ho:∀w':World,w'.heap=w.heap->(Builtin.firstCells i.size sLen (.slice b sLen sCap)).run P w'=.ok old.toArray w'):
 ∃k,(Jp ts ty #[.slice b sLen sCap,v]).run P w=.ok (.slice (G5 ⟨w.heap.size,0,G0⟩) (sLen+n) (sLen+n+k)) {w with heap:=w.heap.push (.cells (old.toArray++c.toArray++Builtin.zeroCells z.cells k) e),drawn:=w.drawn+1}:=by
 have hc0:=hc w.drew rfl;have ho0:=ho w.drew rfl;have hg:=growslice_fits hn (show(sLen+n)*i.bytes<=140737488355328 from G9 (Nat.mul_le_mul hsm hb) (by decide));have hg': ¬(281474976710656<Builtin.nextslicecap (sLen+n) sCap*i.bytes):=by omega
 have hnr: ¬sLen+n<=sCap:=by omega
 have hmax: ¬((9223372036854775807:Int)<(sLen:Int)+(n:Int)/\i.bytes=0):=by omega
 refine⟨w.tape w.drawn (.appendCap (sLen+n) sCap e)%(9223372036854775808-(sLen+n)),?_⟩;rw[lZ ht hu hs];simp[Jp,IM hu,sizeOf,typeInfo,hi,hl w,hnr,hg',Question.forced,Question.cut,zeroValue,hz,newRow];rw[if_neg hmax];have hd:({heap:=w.heap,tape:=w.tape,drawn:=w.drawn+1,os:=w.os,output:=w.output}:World)=w.drew:=rfl;have hx:∀X:Array Value,old.toArray++(c.toArray++X)=(old++c).toArray++X:=fun X=>by apply Array.ext';simp
 simp[ho0,hc0];rw[hx];rfl
end
end Go.Ev
namespace Go.Ev
set_option linter.unusedSectionVars false
variable {α β γ:Type} {p q:Rho} {P:Ia}
theorem Ext.del(p:Rho)(h:H)(w:World)(i:Nat):Ext p h w p (h.del i) w:=
 ⟨Le.refl p,rfl,rfl,rfl,G8 _,fun _ _ _=>rfl,fun b _ k l c y e e1=>by
  rw[H.get_del]at e;split at e
  ·cases e
  ·exact k l c y e e1,G8 _,fun _ _=>rfl⟩
theorem Ext.move {h:H}{w:World}(H':HR p h w.heap){i:Nat}{b0:Blk}{x y:RB}{o:Obj}(hi:h.get i=G5 b0)(hx:p i=G5 x)(hr:y.r=x.r)(b:Blk):Ext p h w (p.set h.n y) ((h.del i).new b) {w with heap:=w.heap.setIfInBounds x.r o}:=by
 refine⟨j7 _ (H'.fresh _ (G8 _)),rfl,rfl,rfl,by simp,fun j _ k=>Array.getElem?_setIfInBounds_ne (k i b0 x hi hx),fun j _ k l c z e e1=>?_,Nat.le_succ _,tL _⟩;rw[H.get_new]at e;split at e
 ·rename_i k2;have k2:h.n=l:=k2;subst k2;rw[eS]at e1;cases e1;rw[hr];exact k i b0 x hi hx
 ·rename_i k2;rw[H.get_del]at e;split at e
  ·cases e
  ·have k2:h.n≠l:=k2;unfold Rho.set at e1;rw[if_neg (fun k=>k2 k.symm)]at e1;exact k l c z e e1
theorem Fg {x y:Option Addr}{m n c d:Nat}(h:VR p (.slice x m c) (.slice y n d)):d<=c:=by
 cases h with
 |sl0=>exact G8 _
 |sl=>exact G8 _
 |slo=>exact Nat.le_add_right _ _
section
variable {call:bU} {a:Act} {b:A} {h g:H} {w:World} {o:Oper} {u:Value} (A':AR p a b) (H':HR p h w.heap)
include A' H'
theorem vI(z:Array Value)(k:Nat):(Builtin.zeroCells z k).toList.length=k*z.size:=by simp[Builtin.zeroCells]
theorem vJ {ts:Array TypeId}{ty:TypeId}{s x:Ie}(e:iI ts s x P call b h o=.ok (.mk u g)):Fin p h w ((do pure (IU (<-Jp ts ty #[a.eval s,a.eval x])):Sem Next).run P w) u g:=by
 obtain⟨hs,e⟩:=aT e;obtain⟨t,e1,e⟩:=R.b_ok e;obtain⟨el,e2,e⟩:=R.b_ok e;obtain⟨ti,e3,e⟩:=R.b_ok e;obtain⟨y,e4,e⟩:=R.b_ok e;obtain⟨new,e5,e⟩:=R.b_ok e;obtain⟨sl,e6,e⟩:=R.b_ok e;obtain⟨e7,e⟩:=aT e;have ht:=lh e1;have hu:=jy (bF e2);have hsm:sl.len+y.n<=1048576:=dK e7;obtain⟨i,z,h1,h2,h3,h4,h5,h6,h7⟩:=Bd e3;obtain⟨hl,c,hc1,hc2,hc3⟩:=yU (P:=P) H' (A'.eval x) e4 e5;have hc3':∀w':World,w'.heap=w.heap->(Builtin.firstCells i.size y.n (a.eval x)).run P w'=.ok c.toArray w':=by rw[h3];exact hc3
 have vs:=A'.eval s;rw[fM (bF e6)]at vs;have hzs:z.cells.size=ti.s:=by rw[<-h5,h4];simp
 have grow:∀(ad:Option Addr) (cp:Nat) (old old':List Value) (h0:H),HR p h0 w.heap->Ext p h w p h0 w->h0.n=h.n->a.eval s=.slice ad sl.len cp->cp<sl.len+y.n->VRs p old old'->old'.length=sl.len*ti.s->
  (∀w':World,w'.heap=w.heap->(Builtin.firstCells i.size sl.len (.slice ad sl.len cp)).run P w'=.ok old.toArray w')->
  Fin p h w ((do pure (IU (<-Jp ts ty #[a.eval s,a.eval x])):Sem Next).run P w) (.slice (G5 ⟨h0.n,0,G5 0⟩) (sl.len+y.n) (sl.len+y.n)) (h0.new (.cells (old'++new) el ti.s G7)):=by
  intro ad cp old old' h0 H0 E0 hn0 hv hlt ho holen hrun;obtain⟨k,hk⟩:=Bf (ty:=ty) ht hu h1 hs hl hc3' h2 hlt hsm h6 hrun;rw[<-hv]at hk;obtain⟨n1,n2⟩:=lW H0 el (ho.app hc1) (post:=(Builtin.zeroCells z.cells k).toList) (es:=ti.s) (kk:=k) (by rw[vI A' H',hzs]) (w.drawn+1);have hX:old.toArray++c.toArray++Builtin.zeroCells z.cells k=⟨(old++c)++(Builtin.zeroCells z.cells k).toList⟩:=by apply Array.ext';simp
  rw[hX]at hk;refine⟨_,_,_,.inl (by rw[It,hk];rfl),E0.trans n1,n2,?_⟩;exact VR.slo (off:=0) (s:=0) (eS p h0.n ⟨w.heap.size,0,k⟩)
 unfold xf at e;cases hn:Ib y.n 0 with
 | true =>
   rw[hn]at e;obtain⟨e8,e⟩:=aT (show bp (Nat.ble sl.len sl.cap) (ret (b.ev s) h)=(.ok (VH.mk u g):R VH)from e);obtain⟨rfl,rfl⟩:=bP e;have e8:=dK e8;have hn0:=dQ hn;have hcl:c.length=y.n*i.size:=by rw[h3];exact hc2
   have vs':=A'.eval s;obtain⟨ad,cp,hv,_⟩:=VR.sl_ok A' H' vs;have hcp:sl.len<=cp:=by
    rw[hv]at vs;exact G9 e8 (Fg vs)
   have:=Be (ty:=ty) (b:=ad) ht hu h1 hs hl hc3' hn0 hcl hcp;rw[<-hv]at this;exact bK H' this vs'
 | false =>
   rw[hn]at e;have hn0:y.n≠0:=fun k=>by rw[k]at hn;cases hn
   have e:(Iv (motive:=fun _=>R VH) (bp (Ib sl.len 0) (bp (Ib sl.cap 0) (rr h el ti.s (Nat.add sl.len y.n) new))) (fun a=>AO h el ti.s sl.len sl.cap y.n new a) sl.a)=.ok (.mk u g):=e;cases hsa:sl.a with
   | none =>
     rw[hsa]at e vs;obtain⟨e8,e⟩:=aT (show bp (Ib sl.len 0) _=(.ok (VH.mk u g):R VH)from e);obtain⟨e9,e⟩:=aT e;obtain⟨rfl,rfl⟩:=bP e;have e8:=dQ e8;have e9:=dQ e9;generalize hv:a.eval s=v at vs;cases vs with|sl0=>
     have:=grow G0 sl.cap [] [] h H' (Ext.refl p h w) rfl hv (by omega) .nil (by rw[e8];simp) (fun w' _=>rfl);rw[hv]at this;exact this
   | some ad =>
     obtain⟨j,off,sp⟩:=ad;rw[hsa]at e vs;have e:R.b (h.row j) (fun r=>Hj (motive:=fun _=>R VH) (AN h el ti.s j off sp sl.len sl.cap y.n new r) (D6 h ti.s j off sp sl.len sl.cap y.n new r) (Nat.ble (Nat.add sl.len y.n) sl.cap))=.ok (.mk u g):=e;obtain⟨r,er,e⟩:=R.b_ok e;have hab:∃rb cp,p j=G5 rb/\a.eval s=.slice (G5 ⟨rb.r,rb.o+off,G0⟩) sl.len cp/\((sp=G0/\cp=sl.cap)\/(sp.isSome=G6/\cp=sl.cap+rb.k)):=by
      generalize a.eval s=v at vs;cases vs with
      | @sl _ _ _ _ rb hp=>exact⟨rb,_,hp,rfl,.inl ⟨rfl,rfl⟩⟩
      | @slo _ _ _ _ _ rb hp=>exact⟨rb,_,hp,rfl,.inr ⟨rfl,rfl⟩⟩
     obtain⟨rb,cp,hp,hv,hcp⟩:=hab;cases hb:Nat.ble (Nat.add sl.len y.n) sl.cap with
     | true =>
       rw[hb]at e;have hb:=dK hb;obtain⟨f1,e⟩:=aT (show bp _ _=(.ok (VH.mk u g):R VH)from e);obtain⟨f2,e⟩:=aT e;have f1:off+(sl.len+y.n)*ti.s<=r.vs.length:=by rw[<-gc];exact dK f1
       cases hf:r.fz with
       |true=>rw[hf]at e;cases e
       | false =>
         rw[hf]at e;obtain⟨rfl,rfl⟩:=bP e;have hlen:new.length=y.n*ti.s:=by rw[<-hc1.length];exact hc2
         obtain⟨w',k1,k2,k3⟩:=qh (P:=P) H' er hp hc1 f2 hf (off:=off+sl.len*ti.s) (by rw[hlen,Nat.add_assoc,<-Nat.add_mul];exact f1);have hroom:sl.len+y.n<=cp:=by rcases hcp with⟨_,rfl⟩|⟨_,rfl⟩;exact hb;exact G9 hb (Nat.le_add_right _ _)
         have hst:(storeCells ((⟨rb.r,rb.o+off,G0⟩:Addr).add (sl.len*i.size)) c).run P w=.ok () w':=by rw[gy,h3];exact k1
         have hr:=tS (ty:=ty) ht hu h1 hs hl hc3' hroom hst;rw[<-hv]at hr;refine⟨p,w',_,.inl (by rw[It,hr];rfl),k2,k3,?_⟩;cases sp with
         |none=>rcases hcp with⟨_,rfl⟩|⟨k,_⟩;exact .sl hp;cases k
         |some s0=>rcases hcp with⟨k,_⟩|⟨_,rfl⟩;cases k;exact .slo hp
     | false =>
       rw[hb]at e;have hb: ¬sl.len+y.n<=sl.cap:=fun k=>by
        have k2:Nat.ble (sl.len+y.n) sl.cap=true:=by rw[Nat.ble_eq];exact k
        rw[show Nat.ble (sl.len+y.n) sl.cap=G7 from hb]at k2;cases k2
       obtain⟨old',f1,e⟩:=R.b_ok (show R.b (cut r.vs off (Nat.mul sl.len ti.s)) _=(.ok (VH.mk u g):R VH)from e);obtain⟨old,o1,o2,o3⟩:=gZ (P:=P) H' er hp f1;have holen:old'.length=sl.len*ti.s:=by rw[<-o1.length];exact o2
       have hrun:∀w':World,w'.heap=w.heap->(Builtin.firstCells i.size sl.len (.slice (G5 ⟨rb.r,rb.o+off,G0⟩) sl.len cp)).run P w'=.ok old.toArray w':=fun w' hw=>by
        rw[h3];exact o3 w' hw
       rw[lU]at e;cases sp with
       | none =>
         obtain⟨rfl,rfl⟩:=bP (show ret _ _=(.ok (VH.mk u g):R VH)from e);rcases hcp with⟨_,rfl⟩|⟨k,_⟩
         ·exact grow _ _ old old' h H' (Ext.refl p h w) rfl hv (by omega) o1 holen hrun
         ·cases k
       | some s0 =>
         rcases hcp with⟨k,_⟩|⟨_,rfl⟩
         ·cases k
         obtain⟨g0,e⟩:=aT (show bp _ _=(.ok (VH.mk u g):R VH)from e);obtain⟨g1,e⟩:=aT e;obtain⟨g2,e⟩:=aT e;have g0:off=0:=dQ g0;obtain⟨g3,e⟩:=aT e;obtain⟨g4,e⟩:=aT e;have g1:off+sl.cap*ti.s=r.vs.length:=by rw[<-gc];exact dQ g1
         have g2:=dQ g2;have g3:=dQ g3;cases hf:r.fz with
         |true=>rw[hf]at e;cases e
         | false =>
           rw[hf]at e;obtain⟨rfl,rfl⟩:=bP (show ret _ _=(.ok (VH.mk u g):R VH)from e);by_cases hin:sl.len+y.n<=sl.cap+rb.k
           ·obtain⟨x',pre,l,post,f,m3,m4,m5,m6,m7,m8,m9⟩:=H'.row er;rw[hp]at m3;cases m3;have m8:=m8 hf;subst m8;have hml:=m6.length;have har:sl.len*ti.s+y.n*ti.s<=sl.cap*ti.s+rb.k*ti.s:=by rw[<-Nat.add_mul,<-Nat.add_mul];exact Nat.mul_le_mul_right _ hin
            have hcut:off+sl.len*ti.s<=r.vs.length:=(lV f1).1;have hold:old'=(r.vs.drop off).take (sl.len*ti.s):=(lV f1).2;have hle:sl.len*ti.s<=sl.cap*ti.s:=by omega
            have hpost:post.length=rb.k*ti.s:=by rw[m7,g2]
            have hkk:(sl.cap+rb.k-(sl.len+y.n))*ti.s=sl.cap*ti.s+rb.k*ti.s-(sl.len*ti.s+y.n*ti.s):=by rw[Nat.sub_mul,Nat.add_mul,Nat.add_mul]
            have hst:=run_storeCells_at P rb.r (rb.o+(off+sl.len*ti.s)) r.e c 0 ⟨pre++(l++post)⟩ w m4 (by simp;omega) (xi hc1 g4);simp only[Nat.add_zero]at hst;rw[qg m4]at hst;have hrow:(pre++(l++post)).take (rb.o+(off+sl.len*ti.s))++c++(pre++(l++post)).drop (rb.o+(off+sl.len*ti.s)+c.length)=(pre++l.take off)++((((l.drop off).take (sl.len*ti.s))++c)++(pre++(l++post)).drop (rb.o+(off+sl.len*ti.s)+c.length)):=by
             rw[List.take_append,List.take_of_length_le (show pre.length<=rb.o+(off+sl.len*ti.s)by omega),show rb.o+(off+sl.len*ti.s)-pre.length=off+sl.len*ti.s by omega,List.take_append_of_le_length (by omega),List.take_add];simp
            rw[hrow]at hst;generalize hD:(pre++(l++post)).drop (rb.o+(off+sl.len*ti.s)+c.length)=D at hst;have hDl:D.length=(sl.cap+rb.k-(sl.len+y.n))*ti.s:=by
             rw[<-hD,hkk,I4,Ii,Ii];omega
            have hr:=tS (ty:=ty) (a:=⟨rb.r,rb.o+off,G0⟩) ht hu h1 hs hl hc3' hin (by rw[gy,h3];exact hst);rw[<-hv]at hr;have hle':=j7 ⟨rb.r,rb.o+off,sl.cap+rb.k-(sl.len+y.n)⟩ (H'.fresh h.n (G8 _));have hBR:BR (p.set h.n ⟨rb.r,rb.o+off,sl.cap+rb.k-(sl.len+y.n)⟩) ⟨rb.r,rb.o+off,sl.cap+rb.k-(sl.len+y.n)⟩ (.cells (old'++new) el ti.s G7) (.cells ⟨(pre++l.take off)++((((l.drop off).take (sl.len*ti.s))++c)++D)⟩ r.e (0,0)):=by
             refine⟨pre++l.take off,(l.drop off).take (sl.len*ti.s)++c,D,(0,0),by rw[g3],?_,?_,hDl,fun _=>rfl,?_⟩
             ·show(pre++l.take off).length=rb.o+off;rw[Ii,IN];omega
             ·rw[hold];exact(((m6.drop off).take _).app hc1).mono hle'
             ·show rb.o+off=0;omega
            have hV:=VR.slo (p:=p.set h.n ⟨rb.r,rb.o+off,sl.cap+rb.k-(sl.len+y.n)⟩) (off:=0) (n:=sl.len+y.n) (c:=sl.len+y.n) (s:=0) (eS p h.n ⟨rb.r,rb.o+off,sl.cap+rb.k-(sl.len+y.n)⟩);have hk:(sl.len+y.n)+(sl.cap+rb.k-(sl.len+y.n))=sl.cap+rb.k:=by omega
            simp only[hk]at hV;exact⟨_,_,_,.inl (by rw[It,hr];rfl),Ext.move (y:=⟨rb.r,rb.o+off,sl.cap+rb.k-(sl.len+y.n)⟩) H' (gb er) hp rfl _,HR.move (y:=⟨rb.r,rb.o+off,sl.cap+rb.k-(sl.len+y.n)⟩) H' (gb er) hp rfl hBR,hV⟩
           ·exact grow _ _ old old' (h.del j) (H'.del j) (Ext.del p h w j) rfl hv (by omega) o1 holen hrun
end
end Go.Ev
namespace Go.Ev
set_option linter.unusedSectionVars false
variable {α β γ:Type} {p q:Rho} {P:Ia}
theorem ql(a b:ByteArray):(a==b)=decide (a.data.toList=b.data.toList):=by
 obtain⟨x⟩:=a;obtain⟨y⟩:=b;show(x==y)=decide (x.toList=y.toList);rw[IQ,decide_eq_true_eq,beq_iff_eq];exact⟨fun h=>by rw[h],fun h=>Array.ext' h⟩
theorem yW {a b:ByteArray}(h:a.data.toList=b.data.toList):a=b:=by
 obtain⟨x⟩:=a;obtain⟨y⟩:=b;rw[show x=y from Array.ext' h]
theorem Bg {d:TypeDesc}{k e:Value}{r:Bool}(hf:ru (G5 d) k=G6)(h:qc k e=.ok r):Instr.sameNow d k e=G5 r/\eR e=G6/\eR k=G6/\(r=G6->k=e):=by
 cases d<;>cases k<;>cases hf
 ·rename_i dk k a;cases e with
  | int k' b =>
    have h:(if k=k' then(.ok (decide (a=b)):R Bool)else .error ())=.ok r:=h;by_cases hk:k=k'
    ·subst hk;rw[if_pos rfl]at h;cases h;refine⟨?_,rfl,rfl,fun hr=>by rw[of_decide_eq_true hr]⟩;simp only[Instr.sameNow,if_true,Option.some.injEq];rw[IQ];simp
    ·rw[if_neg hk]at h;cases h
  |_=>cases h
 ·rename_i a;cases e with
  | string b =>
    cases h;exact⟨by simp only[Instr.sameNow,ql],rfl,rfl,fun hr=>by rw[yW (of_decide_eq_true hr)]⟩
  |_=>cases h
theorem oL {d:TypeDesc}{k:Value}(hf:ru (G5 d) k=G6):∀{es fs:List IJ} (i0:Nat) {r:Option IJ},ERs p es fs->tD k fs=.ok r->
 match r with
 |none=>Instr.findNow d k es i0=G5 G0
 |some m=>∃j e,Instr.findNow d k es i0=G5 (G5 (i0+j,e.val))/\es[j]? =G5 e/\e.key=k/\VR p e.val m.val/\∀v v',VR p v v'->ERs p (es.modify j fun e=>{e with key:=k,val:=v}) (ow k v' fs):=by
 intro es fs
 induction fs generalizing es with
 | nil =>
   intro i0 r h e;cases h;cases e;rfl
 | cons f fs ih =>
   intro i0 r h e;cases h with|cons hE hR=>
   rename_i e1 es;have e:R.b (qc k f.key) (fun b=>Hj (motive:=fun _=>R (Option IJ)) (tD k fs) (.ok (G5 f)) b)=.ok r:=e;obtain⟨b,hb,e⟩:=R.b_ok e;obtain⟨s1,s2,s3,s4⟩:=Bg hf hb;have hk:=hE.key.same s2;cases b with
   | true =>
     cases e;refine⟨0,e1,?_,rfl,?_,hE.val,fun v v' hv=>?_⟩
     ·simp[Instr.findNow,hk,s1]
     ·rw[hk];exact(s4 rfl).symm
     ·have hset:ow k v' (f::fs)={f with val:=v'}::fs:=by
       show(Except.rec (motive:=fun _=>List IJ) (fun _=>f::ow k v' fs) (fun b=>Hj (f::ow k v' fs) ({f with val:=v'}::fs) b) (qc k f.key))=_;rw[hb]
      rw[hset];simp only[List.modify_zero_cons];refine .cons ⟨?_,hv,hE.born⟩ hR;show VR p k f.key;rw[s4 rfl];exact .of_flat _ s2
   | false =>
     have e:tD k fs=.ok r:=e;have:=ih (i0+1) hR e;cases r with
     | none =>
       simp only at this ⊢;simp[Instr.findNow,hk,s1,this]
     | some m =>
       simp only at this ⊢;obtain⟨j,e2,t1,t2,t3,t4,t5⟩:=this;refine⟨j+1,e2,?_,by simpa using t2,t3,t4,fun v v' hv=>?_⟩
       ·simp[Instr.findNow,hk,s1,t1];omega
       ·have hset:ow k v' (f::fs)=f::ow k v' fs:=by
         show(Except.rec (motive:=fun _=>List IJ) (fun _=>f::ow k v' fs) (fun b=>Hj (f::ow k v' fs) ({f with val:=v'}::fs) b) (qc k f.key))=_;rw[hb]
        rw[hset];simp only[List.modify_succ_cons];exact .cons hE (t5 v v' hv)
theorem xn {t:TypeId}{k:Value}(h:ru (Df P t) k=G6):∃kt et d,P.underlying t=G5 (.map kt et)/\P.underlying kt=G5 d/\ru (G5 d) k=true:=by
 unfold Df at h;split at h
 ·rename_i kt et hu;cases hd:P.underlying kt with
  |none=>rw[hd]at h;cases k<;>cases h
  |some d=>rw[hd]at h;exact⟨kt,et,d,hu,hd,h⟩
 ·cases k<;>cases h
theorem li {kt:TypeId}{d:TypeDesc}{k:Value}(hu:P.underlying kt=G5 d)(hf:ru (G5 d) k=G6)(emp:Bool)(w:World):(Instr.checkKey emp 10000 kt k).run P w=.ok () w:=by
 show(Instr.checkKey emp (9999+1) kt k).run P w=.ok () w;generalize 9999=n;cases d<;>cases k<;>cases hf<;>simp[Instr.checkKey,IM hu]
theorem HR.mapR {h:H}{hp:Array Obj}(H':HR p h hp){i:Nat}{r:lQ}(e:h.mapR i=.ok r):∃x l,p i=G5 x/\hp[x.r]? =G5 (.map ⟨l⟩ r.c)/\ERs p l r.es:=by
 obtain⟨x,o,e1,e2,e3⟩:=H'.live i _ (lg e);obtain⟨l,rfl,e4⟩:=e3;exact⟨x,l,e1,e2,e4⟩
end Go.Ev
namespace Go.Ev
set_option linter.unusedSectionVars false
variable {α β γ:Type} {p q:Rho} {P:Ia}
theorem j9 {t e:TypeId}(h:GM P t=G5 e):∃k,P.underlying t=G5 (.map k e):=by
 unfold GM at h;split at h
 ·cases h;exact⟨_,by assumption⟩
 ·cases h
theorem gg {w:World}{r:Nat}{l:List IJ}{c:Nat}(h:w.heap[r]? =G5 (.map ⟨l⟩ c)):(getObj r).run P w=.ok (.map ⟨l⟩ c) w:=by
 simp[getObj,Sem.run,h]
theorem oM {kt:TypeId}{d:TypeDesc}{k:Value}{es:List IJ}{res:Option (Nat×Value)}(hd:P.underlying kt=G5 d)(h:Instr.findNow d k es 0=G5 res)(w:World):(Instr.findKey kt k es).run P w=.ok res w:=by
 simp[Instr.findKey,IM hd,h]
theorem oN {t kt el:TypeId}{d:TypeDesc}{k z:Value}{ok:Bool}{w:World}{mv:Value}{es:List IJ}{res:Option (Nat×Value)}(hu:P.underlying t=G5 (.map kt el))(hd:P.underlying kt=G5 d)(hf:ru (G5 d) k=G6)(hz:(zeroValue el).run P w=.ok z w)
 (hm:(mv=.map G0/\es=[])\/∃r c,mv=.map (G5 r)/\w.heap[r]? =G5 (.map ⟨es⟩ c)) (h:Instr.findNow d k es 0=G5 res):(Instr.lookup t mv k ok).run P w=.ok (match res with|some (_,v)=>okT ok v G6|none=>okT ok z G7) w:=by
 have hck:=fun emp=>li (P:=P) hd hf emp w
 have hfr:=oM hd h w;rcases hm with⟨rfl,rfl⟩|⟨r,c,rfl,hr⟩
 ·have hfr':(Instr.findKey kt k (#[]:Array IJ).toList).run P w=.ok res w:=hfr;cases res with
  |none=>cases ok<;>simp[Instr.lookup,IM hu,hck,hfr',hz,okT]
  |some q=>cases ok<;>simp[Instr.lookup,IM hu,hck,hfr',okT]
 ·have hg:=gg (P:=P) hr;cases res with
  |none=>cases ok<;>simp[Instr.lookup,IM hu,hg,hck,hfr,hz,okT]
  |some q=>cases ok<;>simp[Instr.lookup,IM hu,hg,hck,hfr,okT]
section
variable {call:bU} {a:Act} {b:A} {h g:H} {w:World} {o:Oper} {u:Value} (A':AR p a b) (H':HR p h w.heap)
include A' H'
theorem xo {x:Ie}{m:lQ}(e:mapA h (b.ev x)=.ok m):(∃i rb l,kY (b.ev x)=G5 (G5 i)/\h.mapR i=.ok m/\p i=G5 rb/\a.eval x=.map (G5 rb.r)/\w.heap[rb.r]? =G5 (.map ⟨l⟩ m.c)/\ERs p l m.es)\/(kY (b.ev x)=G5 G0/\a.eval x=.map G0/\m.es=[]):=by
 obtain⟨mo,e1,e⟩:=R.b_ok e;have e1:=bF e1;have vx:=A'.eval x;rw[oI e1]at vx;cases mo with
 | none =>
   cases e;exact .inr ⟨e1,vx.same rfl,rfl⟩
 | some i =>
   obtain⟨rb,l,k1,k2,k3⟩:=H'.mapR (show h.mapR i=.ok m from e);generalize a.eval x=v at*
   cases vx with|map hp=>
   rw[k1]at hp;cases hp;exact .inl ⟨i,rb,l,e1,e,k1,rfl,k2,k3⟩
theorem vK {t:TypeId}{x k:Ie}{ok:Bool}(e:lc t x k ok P call b h o=.ok (.mk u g)):Fin p h w ((do pure (IU (<-Instr.lookup t (a.eval x) (a.eval k) ok)):Sem Next).run P w) u g:=by
 obtain⟨e0,e⟩:=aT e;obtain⟨m,e1,e⟩:=R.b_ok e;obtain⟨el,e2,e⟩:=R.b_ok e;obtain⟨r,e3,e⟩:=R.b_ok e;obtain⟨z,e4,e⟩:=R.b_ok e;obtain⟨e5,e⟩:=aT e;obtain⟨rfl,rfl⟩:=bP e;obtain⟨kt,et,d,hu,hd,hf⟩:=xn e0;obtain⟨kt',hu'⟩:=j9 (bF e2);rw[hu]at hu';obtain⟨rfl,rfl⟩:kt=kt'/\et=el:=by cases hu';exact⟨rfl,rfl⟩
 have vk:=A'.eval k;have hk:a.eval k=b.ev k:=vk.same (by cases hb:b.ev k<;>rw[hb]at hf<;>first|rfl|(cases d<;>cases hf));have hz:(zeroValue et).run P w=.ok z w:=by
  have e4:=bF e4;unfold GI at e4;cases hi:P.info? et with
  |none=>rw[hi]at e4;cases e4
  | some i =>
    rw[hi]at e4;have e4:i.zero=G5 z:=e4;simp[zeroValue,typeInfo,hi,e4]
 have key:∃es,ERs p es m.es/\((a.eval x=.map G0/\es=[])\/∃r c,a.eval x=.map (G5 r)/\w.heap[r]? =G5 (.map ⟨es⟩ c)):=by
  rcases xo A' H' e1 with⟨i,rb,l,-,-,-,k1,k2,k3⟩|⟨-,k1,k2⟩
  ·exact⟨l,k3,.inr ⟨_,_,k1,k2⟩⟩
  ·exact⟨[],by rw[k2];exact .nil,.inl ⟨k1,rfl⟩⟩
 obtain⟨es,hE,hm⟩:=key;have hfs:=oL (p:=p) hf 0 hE e3;rw[hk];cases r with
 | none =>
   have:=oN (ok:=ok) hu hd hf hz hm hfs;refine bK H' this ?_;cases ok
   ·exact .of_flat z e5
   ·exact .tuple (.cons (.of_flat z e5) (.cons (.bool _) .nil))
 | some mm =>
   obtain⟨j,e6,t1,t2,t3,t4,t5⟩:=hfs;have:=oN (ok:=ok) hu hd hf hz hm t1;refine bK H' this ?_;cases ok
   ·exact t4
   ·exact .tuple (.cons t4 (.cons (.bool _) .nil))
theorem Dp {ts:Array TypeId}{ty:TypeId}{x:Ie}(hs:∀cs c,o.op≠ .select cs c)(ho:execOp a.eval o=(do pure (IU (<-Builtin.len_ ts ty #[a.eval x]))))
 (e:tI ts.toList x P call b h o=.ok (.mk u g)):Fin p h w ((execOp a.eval o).run P w) u g:=by
 unfold tI at e;cases hx:fJ (b.ev x)with
 | some s =>
   rw[hx]at e;obtain⟨t,e1,e⟩:=R.b_ok (show R.b (qd ts.toList) _=(.ok (VH.mk u g):R VH)from e);obtain⟨el,e2,e⟩:=R.b_ok e;obtain⟨rfl,rfl⟩:=bP e;have vx:=A'.eval x;rw[fM hx]at vx;obtain⟨ad,c,hv,-⟩:=VR.sl_ok A' H' vx;rw[ho,hv];refine bK H' (v:=.int .i64 (Int.ofNat s.len)) ?_ (.int _ _);simp[Builtin.len_,lh e1,IM (jy (bF e2)),goInt]
 | none =>
   rw[hx]at e;cases hm:kY (b.ev x)with
   | none =>
     rw[hm]at e;exact ef (call:=call) A' H' hs e
   | some m0 =>
     rw[hm]at e;obtain⟨t,e1,e⟩:=R.b_ok (show R.b (qd ts.toList) _=(.ok (VH.mk u g):R VH)from e);obtain⟨el,e2,e⟩:=R.b_ok e;obtain⟨m,e3,e⟩:=R.b_ok e;obtain⟨rfl,rfl⟩:=bP e;obtain⟨kt,hu⟩:=j9 (bF e2);rw[ho];refine bK H' (v:=.int .i64 m.es.length) ?_ (.int _ _);rcases xo A' H' e3 with⟨i,rb,l,-,-,-,k1,k2,k3⟩|⟨-,k1,k2⟩
     ·have hg:=gg (P:=P) k2;have:=k3.length;simp[Builtin.len_,lh e1,IM hu,k1,hg,goInt,this]
     ·simp[Builtin.len_,lh e1,IM hu,k1,goInt,k2]
end
end Go.Ev
