/- Walks and plain facts for the law on type variables, for all values and types that the heap holds (texts Fc Fd Fe). -/
import Derived.LoopN
import Derived.Test.YtfpahmeploondaaGreatDoorR03
import Derived.Test.YtfpahmeploondaaGreatDoorR44
set_option linter.unusedVariables false
set_option linter.unusedSimpArgs false
set_option maxHeartbeats 64000000
open Option renaming none -> G0, some -> G5
open Bool renaming true -> G6, false -> G7
open Array renaming getD_eq_getD_getElem? -> JG
open List renaming getElem?_eq_some_iff -> I2, getElem?_eq_getElem -> Jk, mem_singleton -> I7, all_eq_true -> Ij
open Nat renaming lt_of_lt_of_le -> Ig, lt_or_ge -> IT, le_refl -> G8, beq -> Ib
open Go.Result renaming andThen_ok -> Ji
open Bool renaming or_eq_true -> IE, rec -> Hj
open Go.Sem renaming run_bind -> It
open Option renaming rec -> Iv
open Go renaming undef -> If, Program -> Ia
namespace Go.Ev
set_option linter.unusedSectionVars false
variable {P:Ia} {call:bU} {n:Nat} {all:Array Oper} {p0:Rho} {a0:A} {h0:H} {c0:Act} {w0:World} {b:A} {g:H} {ds:Nat->DS} {us:Nat->Value}
theorem uk {h:H}{t:TypeId}{p v:Value}(e:gU P h t p=.ok v):∃i off b,p=.pointer (G5 ⟨i,off,G0⟩)/\h.get i=G5 b:=by
 obtain⟨a,e1,e⟩:=R.b_ok e;obtain⟨i,off,sp⟩:=a;cases sp with
 |some _=>cases e
 | none =>
   obtain⟨r,e2,_⟩:=R.b_ok (show R.b (h.row i) (fun r=>R.b (GG (GJ P t)) fun b=>isAgg b (GG (GH P t)) r.vs off)=.ok v from e);exact⟨i,off,_,ft e1,gb e2⟩
section
variable {D:Nat->Prop} {rho:Rho} {t i:Nat} {a:Act} {w:World} {s:ST} (T':Dv P call n all a0 h0 b g ds us) (K':ue n all) (J':Jn n all p0 a0 h0 c0 w0 ds us D rho t a w) (hs:(aW all)[i]? =G5 s) (hD: ¬D i) (hr:∀m∈s.es,D m)
include T' K' J' hs hD hr
theorem BE(C:dY P call)(hn: ¬cR ds i)(ha:dl ds i)(h1:sub (ds i).al s.anc=G6)(h2:sub (ds i).xs s.anc=G6)(w':cE s.o.guard all (ds i).a=.ok G6)(e:opT s.o.op P call (ds i).a (ds i).h s.o=.ok (.mk (us i) (ds (i+1)).h)):
 wpList P all (Exit.then (fun a' w'=>∃rho t,Jn n all p0 a0 h0 c0 w0 ds us (fun j=>D j\/j=i) rho t a' w') (fun _ _ _=>False)) [s.o] a w:=by
 obtain⟨b',k1,k2,k3⟩:=oU T' K' J' hs hD hr;rw[<-ma (mb e) k2]at e;have hil:=(I2.1 hs).1;have hti:=BC T' K' J' hil hD (.inr ha);have hmi:=rN T' hil;have hanc:=rM J'.shut hs hr;have hact:∀j,j<(aW all).length->dl ds j->(D j<->j<i):=fun j hj hja=>by
  refine⟨fun h=>?_,fun h=>jA T' K' J' hs hanc h2 ((xy T' h (by omega)).2 hja)⟩;have:=(J'.acts j hj hja).1 h;omega
 obtain⟨hsub,hH⟩:=rP T' K' J' hti (by omega) (fun j h3 h4 h5=>by
  have:=(J'.acts j (by omega) h5).1 ((hact j (by omega) h5).2 h4);omega) (fun j h3 h4 h5=>jA T' K' J' hs hanc h1 ((Ec T' h4 (by omega)).2 h5))
 refine rS C k1 hH (dR k1 (k3.trans w')) e fun q v w1 E H1 V1=>?_
 obtain⟨rho',le,lo,hi,cut,gr,rows⟩:=J'.gr.run hsub E H1 (fun m k1 k2=>rQ T' K' J' hs hD hr hti k1 k2) (G':=GD all ds (fun j=>D j\/j=i) (i+1)) (lev':=(ds (i+1)).h.n) (cJ T' (by omega) (by omega)) (fun m bl h=>by
  rcases h with h|⟨j,l1,l2,l3,l4,l5,l6⟩
  ·exact .inl ⟨h,by omega⟩
  ·have hmj:=cJ T' l1 (by omega);refine .inr ⟨.inr ⟨j,by omega,l2,l3.resolve_right (by omega),l4,l5,l6⟩,fun c e=>?_,.inr (by omega)⟩;have:=hH.lt e;omega)
 have z0:=cJ T' (Nat.zero_le i) (by omega);rw[(ds0 T').1]at z0;refine⟨rho',i+1,J'.next T' K' hs hD hr le (fun m hm=>lo m (Ig hm z0)) (.inr ⟨rfl,ha,hact⟩) (fun m bl e=>H1.lt e) gr (fun m x e=>?_) (by rw[cut];exact V1) E.os E.tape E.output E.size rows⟩;rcases IT m (ds (i+1)).h.n with k|k
 ·exact .inl k
 ·refine .inr ?_;rw[hi m k]at e;have mt:=cJ T' (show t<=i+1 by omega) (by omega);rcases J'.names m x e with l|⟨j,l1,l2,l3,l4,l5⟩
  ·omega
  ·refine⟨j,?_,l2,.inl l3,l4,l5⟩;have hne:j≠i:=fun e=>hD (e▸l3)
   have hj:=rO T' l2 l4;rcases IT j i with h|h
   ·have:=cJ T' (show j+1<=i by omega) (by omega);omega
   ·omega
theorem BF:∃y∈(ds (aW all).length).lvs,y.c=(ds t).xs/\y.h=(ds t).h/\∀m,has y.anc m=G6->D m:=by
 rcases J'.lev with rfl|⟨c,rfl,hc,hd⟩
 ·refine⟨⟨0,0,h0⟩,uf T' (Nat.zero_le _) (G8 _) _ (by rw[T'.zero];exact I7.2 rfl),by rw[T'.zero];rfl,by rw[T'.zero];rfl,fun m h=>?_⟩;rw[rJ]at h;exact absurd h (by simp)
 ·have hcl:=J'.dn c hd;obtain⟨r,hr,_,_⟩:=gz T' hcl;rcases oR T' hr with⟨_,k,_⟩|⟨_,k,_⟩|⟨_,_,_,_,_,_,k⟩
  ·exact absurd hc k
  ·exact absurd hc k
  ·exact⟨_,uf T' J'.lt (G8 _) _ (by rw[k];exact List.mem_cons_self ..),rfl,rfl,fun m h=>oT T' K' J' hr hd h⟩
theorem zm(C:dY P call)(hn: ¬cR ds i)(ha: ¬dl ds i)(hq:(ds (i+1)).h=(ds i).h)(w':cE s.o.guard all (ds i).a=.ok G6){ty:TypeId}{x:Operand}(ho:s.o.op=.load ty x)(e:gU P (ds i).hk ty ((ds i).a.ev x)=.ok (us i))(hb:below (ds i).hk.n (us i)=G6)
 (hl:⟨i,s.anc,ty,(ds i).a.ev x,us i⟩∈(ds (i+1)).lds):
 wpList P all (Exit.then (fun a' w'=>∃rho t,Jn n all p0 a0 h0 c0 w0 ds us (fun j=>D j\/j=i) rho t a' w') (fun _ _ _=>False)) [s.o] a w:=by
 have hil:=(I2.1 hs).1;obtain⟨b',k1,k2,k3⟩:=oU T' K' J' hs hD hr;have hsame:gU P (ds t).h ty ((ds i).a.ev x)=.ok (us i):=by
  obtain⟨y,y1,y2,y3,y4⟩:=BF T' K' J' hs hD hr;have hc:=T'.chk;unfold Dt at hc;rw[Ij]at hc;have hc:=hc _ (By T' (show i+1<=(aW all).length by omega) (G8 _) _ hl);rw[Ij]at hc;have hc:=hc y y1;have c1:has y.anc i=false:=by
   cases hh:has y.anc i with
   |false=>rfl
   |true=>exact absurd (y4 i hh) hD
  have c2:sub (Nat.land s.anc (ds (aW all).length).xs) y.c=true:=by
   refine Fk fun j hj=>?_
   have hj:(s.anc&&&(ds (aW all).length).xs).testBit j=true:=hj;rw[Nat.testBit_and,Bool.and_eq_true]at hj;have hjl:=Bx T' (G8 _) j hj.2;have hja:=(xy T' hjl (G8 _)).1 hj.2;have hd:=rM J'.shut hs hr j (by rw[rJ];exact hj.1);have hjt:=(J'.acts j hjl hja).1 hd;rw[y2];exact(xy T' hjt J'.lt).2 hja
  unfold Gb at hc;have hc:(Hj (Hj G6 (xq P y.h ty ((ds i).a.ev x) (us i)) (sub (Nat.land s.anc (ds (aW all).length).xs) y.c)) G6 (has y.anc i):Bool)=true:=hc;rw[c1,c2,y3]at hc;have hc:xq P (ds t).h ty ((ds i).a.ev x) (us i)=true:=hc;unfold xq at hc;cases hload:gU P (ds t).h ty ((ds i).a.ev x)with
  |error _=>rw[hload]at hc;cases hc
  |ok u=>rw[hload]at hc;rw[vN _ _ hc]
 obtain⟨bk,off,bl,p1,p2⟩:=uk hsame;obtain⟨hsub,hH⟩:=rP T' K' J' (G8 t) J'.lt (fun j h3 h4=>by omega) (fun j h3 h4=>by omega);have hbk:=hH.lt p2;have hb2:∃b2:A,AR (rho.cut (ds t).h.n) a b2/\b2.ev x=(ds i).a.ev x:=by
  cases x with
  | tmp q0 =>
    obtain⟨b2,m1,m2⟩:=vS (p:=rho.cut (ds t).h.n) (a:=a) [q0] (fun q=>(ds i).a.get If q) (fun q hq=>by
     rw[I7]at hq;subst hq;have v1:=ui T' K' J' hs hD hr q (by
      unfold Oper.looksAt;refine List.mem_append.2 (.inl (List.mem_filterMap.2 ⟨.tmp q,?_,rfl⟩));rw[ho];simp[Op.operands])
     have v2:VR rho (a.tmps.getD q If) ((ds i).a.get If q):=v1.mono fun j z hz=>by
      by_cases hj:j<(ds i).h.n
      ·rw[b9 hj]at hz;exact hz
      ·rw[fA (by omega)]at hz;cases hz
     refine oS v2 ?_;have p1:(ds i).a.get If q=.pointer (G5 ⟨bk,off,G0⟩):=p1;rw[p1];show Nat.blt bk _=G6;rw[Nat.blt_eq];exact hbk)
    exact⟨b2,m1,m2 q0 (by simp)⟩
  | _ =>
    obtain⟨b2,m1,_⟩:=vS (p:=rho.cut (ds t).h.n) (a:=a) [] (fun _=>If) (fun q hq=>by cases hq);exact⟨b2,m1,rfl⟩
 obtain⟨b2,m1,m2⟩:=hb2;have e2:opT s.o.op P call b2 (ds t).h s.o=.ok (.mk (us i) (ds t).h):=by
  rw[ho];show same (ds t).h (gU P (ds t).h ty (b2.ev x))=_;rw[m2,hsame];rfl
 refine rS C m1 hH (dR k1 (k3.trans w')) e2 fun q v w1 E H1 V1=>?_
 obtain⟨rho',le,lo,hi,cut,gr,rows⟩:=J'.gr.run hsub E H1 (fun m k1 k2=>absurd k2 (Nat.not_lt.2 k1)) (G':=GD all ds (fun j=>D j\/j=i) t) (G8 _) (fun m bl h=>by
  rcases jB T' K' J' hs hD hr hn m bl h with h|⟨j,l1,l2,l3,l4,l5,l6⟩
  ·exact .inl ⟨h,by omega⟩
  ·have hmj:=cJ T' l1 (by omega);refine .inr ⟨.inr ⟨j,l1,l2,l3,l4,l5,l6⟩,fun c e=>?_,.inr (by omega)⟩;have:=hH.lt e;omega)
 have z0:=cJ T' (Nat.zero_le t) J'.lt;rw[(ds0 T').1]at z0;refine⟨rho',t,J'.next T' K' hs hD hr le (fun m hm=>lo m (Ig hm z0)) (.inl ⟨rfl,ha⟩) J'.lvl gr (fun m x e=>?_) ?_ E.os E.tape E.output E.size rows⟩
 ·refine jf T' K' J' hs hD hr (J'.names m x ?_) rfl;rcases IT m (ds t).h.n with k|k
  ·rw[<-lo m k];exact e
  ·rw[<-hi m k];exact e
 ·have v2:VR rho' v (us i):=V1.mono fun j z hz=>by
   rw[<-cut]at hz;by_cases hj:j<(ds t).h.n
   ·rw[b9 hj]at hz;exact hz
   ·rw[fA (by omega)]at hz;cases hz
  have:=Ge T' (i:=i) (by omega);exact(oS v2 hb).mono (gh (Le.refl _) (by rw[hq];exact this))
theorem BG(C:dY P call):wpList P all (Exit.then (fun a' w'=>∃rho t,Jn n all p0 a0 h0 c0 w0 ds us (fun j=>D j\/j=i) rho t a' w') (fun _ _ _=>False)) [s.o] a w:=by
 have hil:=(I2.1 hs).1;have si:=(fu hs).2.1;have hk:=oR T' hs;have nx: ¬(ds i).xs.testBit i=true:=fun h=>by have:=Bx T' (by omega) i h;omega
 have na: ¬(ds i).al.testBit i=true:=fun h=>by have:=Eb T' (by omega) i h;omega
 have hst:=T'.step i s hs;generalize hu:us i=u at hst;generalize hd:ds (i+1)=d' at hst;cases hst with
 | skip w' =>
   refine zh T' K' J' hs hD hr (by unfold cR;rw[hd];exact na) (by unfold dl;rw[hd];exact nx) (by rw[hd]) w' hu
 | same w' e hg =>
   rw[<-hu]at e;exact zj T' K' J' hs hD hr C (by unfold cR;rw[hd];exact na) (by unfold dl;rw[hd];exact nx) (by rw[hd]) w' e hg
 | new w' e hg hb =>
   rw[<-hu]at e;exact BD T' K' J' hs hD hr C (by unfold cR;rw[hd];show(Nat.lor (ds i).al (bit s.i)).testBit i=G6;rw[gN,IE,iK];exact .inr si) (by unfold dl;rw[hd];exact nx) (by rw[hd]) w' e hg hb
 | load w' ho e hb =>
   rw[<-hu]at e hb;refine zm T' K' J' hs hD hr C (by unfold cR;rw[hd];exact na) (by unfold dl;rw[hd];exact nx) (by rw[hd]) w' ho e hb ?_;rw[hd,hu,si];exact List.mem_cons_self ..
 | act w' h1 h2 e hg =>
   rw[<-hu]at e;refine BE T' K' J' hs hD hr C (by unfold cR;rw[hd];exact na) (by unfold dl;rw[hd];show(Nat.lor (ds i).xs (bit s.i)).testBit i=G6;rw[gN,IE,iK];exact .inr si) h1 h2 w' (by rw[hd];exact e)
end
theorem zo {p:Rho}{a:Act}{b b':A}{h g:H}{w:World}{id:Nat}{Q:Exit->Act->World->Prop}(hm:P.follows .mixedOrders=G6)(C:dY P call)(A':AS p a b n)(H':HR p h w.heap)(e:Gc P call n all b h=.ok (.mk b' g))
 (K:∀q a' w',Ext p h w q g w'->HR q g w'.heap->AS q a' b' n->a'.defers=a.defers->Q .normal a' w'):(Code.region id all G6).wp P Q a w:=by
 obtain⟨e1,e⟩:=aT e;have K':=Fl e1;obtain⟨ds,us,T'⟩:=xx e;have hz:=ds0 T';obtain⟨l⟩:=all;have cut0:p.cut h.n=p:=BA H'.fresh;let at':(Nat->Prop)->Nat->Prop:=fun D j=>∃s:ST,(aW ⟨l⟩)[j]? =G5 s/\D s.k
 refine Inv.wp_region_inv (fun D a' w'=>∃rho t,Jn n ⟨l⟩ p b h a w ds us (at' D) rho t a' w') hm ?_ ⟨p,0,?_⟩ ?_ ?_
 ·unfold Inv.backward;rw[Ij];intro i hi;rw[List.mem_range]at hi;have hi:i<l.length:=by simpa using hi
  have:=K'.back i l[i] (Jk hi);have h2:(l.toArray)[i]? =G5 l[i]:=by simp[hi]
  rw[h2];simp only[Option.map_some,Option.getD_some];rw[Array.all_eq_true_iff_forall_mem];intro e he;cases hb:Region.binds .any e with
  |false=>rfl
  |true=>simpa using this e (by simpa using he) hb
 ·have no:∀j,¬at' (fun _=>False) j:=fun j h=>h.elim fun _ h=>h.2
  refine⟨fun i h=>(no _ h).elim,fun j o _ h=>(no _ h).elim,Nat.zero_le _,.inl rfl,fun m bl e=>?_,fun i _ _=>⟨fun h=>(no _ h).elim,fun h=>by omega⟩,⟨fun m bl e=>?_,fun x y bx bz u v ex ey eu ev hr=>?_⟩,fun m x e=>?_,fun i s q _ h=>(no _ h).elim,fun q _=>?_,fun _ _=>rfl,rfl,rfl,rfl,G8 _,fun k hk ho=>⟨rfl,fun m c x hm e=>?_⟩,A'.size,rfl⟩
  ·rw[hz.1]at e ⊢;exact H'.lt e
  ·rcases e with e|⟨i,_,_,h,_⟩
   ·rw[hz.1]at e ⊢;obtain⟨x,o,e1,e2,e3⟩:=H'.live m bl e;refine⟨x,o,e1,e2,e3.mono ?_⟩;have:=gh (k:=h.n) (j:=max h.n (m+1)) (Le.refl p) (by omega);rw[cut0]at this;exact this
   ·exact(no _ h).elim
  ·rcases ex with ex|⟨i,_,_,h,_⟩
   ·rcases ey with ey|⟨i,_,_,h,_⟩
    ·rw[hz.1]at ex ey;exact H'.inj x y bx bz u v ex ey eu ev hr
    ·exact(no _ h).elim
   ·exact(no _ h).elim
  ·rw[hz.1];refine .inl (Decidable.byContradiction fun k=>?_);rw[H'.fresh m (by omega)]at e;cases e
  ·rw[cut0];exact A'.ar.tmp q
  ·rcases hm with hm|⟨i,_,_,h,_⟩
   ·rw[hz.1]at hm;exact ho m c x hm e
   ·exact(no _ h).elim
 ·intro k o ho D a' w' hD hedge ⟨rho,t,J'⟩;obtain⟨j,s,hs,hk,hso⟩:=K'.each k o ho;subst hso;subst hk;have hDj: ¬at' D j:=fun⟨r,h1,h2⟩=>by rw[hs]at h1;cases h1;exact hD h2
  have:=BG T' K' J' hs hDj (fun m hm=>by
   obtain⟨e,h1,h2,r,_,h4,h5⟩:=K'.es j s hs m hm;exact⟨r,h4,by rw[h5];exact hedge e h1 h2⟩) C
  have he:at' (fun i=>D i\/i=s.k)=fun i=>at' D i\/i=j:=by
   funext i;apply propext;constructor
   ·rintro⟨r,h1,h2|h2⟩
    ·exact .inl ⟨r,h1,h2⟩
    ·exact .inr (K'.inj i j r s h1 hs h2)
   ·rintro(⟨r,h1,h2⟩|rfl)
    ·exact⟨r,h1,.inl h2⟩
    ·exact⟨s,hs,.inr rfl⟩
  rw[he];exact this
 ·intro D a' w' hall ⟨rho,t,J'⟩;have hall:∀i,i<(aW ⟨l⟩).length->at' D i:=fun i hi=>by
   have e:=Jk hi;exact⟨_,e,hall _ (I2.1 (fu e).1).1⟩
  obtain⟨hsub,hH⟩:=rP T' K' J' J'.lt (G8 _) (fun j h3 h4 h5=>by
   have:=(J'.acts j h4 h5).1 (hall j h4);omega) (fun j _ h4 _=>hall j h4)
  have hlast:=T'.last;have z0:=cJ T' (Nat.zero_le _) (G8 _);rw[hz.1]at z0;rw[hlast.2]at hsub hH z0;refine K (rho.cut g.n) a' w' ⟨fun m x e=>?_,J'.os,J'.tape,J'.output,J'.size,fun k hk ho=>(J'.rows k hk ho).1,fun k hk ho m c x e e1=>?_,z0,fun m hm=>?_⟩ hH ⟨⟨fun q=>?_⟩,J'.tmps⟩ J'.defers
  ·have hm:m<h.n:=Decidable.byContradiction fun k=>by rw[H'.fresh m (by omega)]at e;cases e
   rw[b9 (by omega),J'.keep m hm];exact e
  ·have hm:=hH.lt e;rw[b9 hm]at e1;exact(J'.rows k hk ho).2 m c x (hsub m c e) e1
  ·rw[b9 (by omega),J'.keep m hm]
  ·by_cases hw:∃(j:Nat) (r:ST),(aW ⟨l⟩)[j]? =G5 r/\r.o.dst=G5 q
   ·obtain⟨j,r,hj,hd⟩:=hw;have hjl:=(I2.1 hj).1;have:=xz T' hj hd (K'.dst j r q hj hd) (fun k r' hk hk2=>K'.one k j r' r q hk hj hk2 hd) hjl (G8 _);rw[hlast.1]at this;rw[this];refine(J'.put j r q hj (hall j hjl) hd).mono (gh (Le.refl _) ?_);have:=cJ T' (show j+1<=(aW ⟨l⟩).length by omega) (G8 _);rw[hlast.2]at this;exact this
   ·have:=Bz T' (x:=q) (G8 _) (fun j r _ hj e=>hw ⟨j,r,hj,e⟩);rw[hlast.1]at this;rw[this];exact(J'.old q fun j r hj _ e=>hw ⟨j,r,hj,e⟩).mono (gh (Le.refl _) z0)
end Go.Ev
namespace Go.Ev
set_option linter.unusedVariables false
noncomputable section
variable {α β γ:Type}
inductive X where|normal|exit (id:Nat)|ret
inductive RX where
 |mk (x:X) (a:A) (h:H)
abbrev ul:=Code->A->H->R RX
def rx(x:R RX)(f:X->A->H->R γ):R γ:=Except.rec (motive:=fun _=>R γ) (fun e=>.error e) (fun p=>RX.rec (motive:=fun _=>R γ) f p) x
abbrev lk:=Ia->bU->Nat->ul->A->H->R RX
def Dw(y:Code)(k:ul)(x:X):A->H->R RX:=X.rec (motive:=fun _=>A->H->R RX) (k y) (fun id a h=>.ok (.mk (.exit id) a h)) (fun a h=>.ok (.mk .ret a h)) x
def BH(id:Nat)(x:X):A->H->R RX:=X.rec (motive:=fun _=>A->H->R RX) (fun a h=>.ok (.mk .normal a h)) (fun j a h=>.ok (.mk (Hj (.exit j) .normal (Ib j id)) a h)) (fun a h=>.ok (.mk .ret a h)) x
def xA(ops:Array Oper)(draw:Bool):lk:=fun P call n _ a h=>ah (Hj (A0 P call n ops ops.toList a h) (Gc P call n ops a h) draw) fun a h=>.ok (.mk .normal a h)
def GF(x y:Code):lk:=fun _ _ _ k a h=>rx (k x a h) (Dw y k)
def Gf(c:Operand)(x y:Code):lk:=fun _ _ _ k a h=>R.b (iG (a.ev c)) fun b=>k (Hj y x b) a h
def Fo(id:Nat)(b:Code):lk:=fun _ _ _ k a h=>rx (k b a h) (BH id)
def Gg(b:Code):lk:=fun _ _ _ k a h=>rx (k b a h) (Dw (.loop b) k)
def Dx(x:X):lk:=fun _ _ _ _ a h=>.ok (.mk x a h)
def cNo:lk:=fun _ _ _ _ _ _=>.error ()
def Gh(c:Code):lk:=Code.rec (motive:=fun _=>lk) (Dx .normal) (fun _ ops draw=>xA ops draw) (fun x y _ _=>GF x y) (fun c x y _ _=>Gf c x y) (fun id b _=>Fo id b) (fun b _=>Gg b) (fun _ _ _ _ _ _=>cNo) (fun id=>Dx (.exit id)) (fun _ _=>cNo) (fun _=>Dx .normal) (fun _=>cNo) (Dx .ret) (fun _=>cNo) c
def g9(P:Ia)(call:bU)(nt:Nat)(n:Nat):ul:=Nat.rec (motive:=fun _=>ul) (fun _ _ _=>.error ()) (fun _ ih c a h=>Gh c P call nt ih a h) n
def qq(l:List Value):Nat->A->A:=List.rec (motive:=fun _=>Nat->A->A) (fun _ t=>t) (fun v _ ih i t=>ih (Nat.succ i) (t.set undef i v)) l
def Gi(P:Ia)(a:A)(h:H)(r:ResultVar):R Value:=ResultVar.rec (motive:=fun _=>R Value) (fun t=>.ok (a.get undef t)) (fun p t=>gU P h t (a.get undef p)) r
def Dy(P:Ia)(a:A)(h:H)(l:List ResultVar):R (List Value):=List.rec (motive:=fun _=>R (List Value)) (.ok []) (fun r _ ih=>R.b (Gi P a h r) fun v=>R.b ih fun l=>.ok (v::l)) l
def one(l:List Value):Value:=match l with|[v]=>v|vs=>.tuple vs.toArray
def vU(x:X):Bool:=X.rec (motive:=fun _=>Bool) G7 (fun _=>G6) G7 x
def BI(P:Ia)(fn:Func)(x:X)(a:A)(h:H):R VH:=Hj (R.b (Dy P a h fn.results.toList) fun l=>ret (one l) h) (.error ()) (vU x)
def xB(P:Ia)(call:bU)(big:Nat)(fn:Func)(f:FuncId)(args:List Value)(h:H):R VH:=
 Iv (motive:=fun _=>R VH) (.error ()) (fun c=>bp (Nat.ble (len args) fn.ntmps) (rx (g9 P call fn.ntmps big c (qq args 0 .nil) h) (BI P fn))) fn.body
abbrev Orc:=Ia->FuncId->List Value->H->Option (R VH)
def rV(P:Ia)(orc:Orc)(big:Nat)(call:bU):bU:=fun f args h=>
 Iv (motive:=fun _=>R VH) (R.b (GG P.funcs[f]?) fun fn=>xB P call big fn f args h) (fun r=>r) (orc P f args h)
def dN(P:Ia)(orc:Orc)(big n:Nat):bU:=Nat.rec (motive:=fun _=>bU) (fun _ _ _=>.error ()) (fun _ ih=>rV P orc big ih) n
end
end Go.Ev
namespace Go.Ev
set_option linter.unusedSectionVars false
variable {α β γ:Type} {p q:Rho} {P:Ia} {call:bU} {a:Act} {b b':A} {h g:H} {w:World} {n:Nat}
theorem Gj {x:R AH}{f:A->H->R γ}{y:γ}(h:ah x f=.ok y):∃a g,x=.ok (.mk a g)/\f a g=.ok y:=by
 cases x with
 |error e=>cases h
 |ok z=>obtain⟨a,g⟩:=z;exact⟨a,g,rfl,h⟩
theorem qr {x:R RX}{f:X->A->H->R γ}{y:γ}(h:rx x f=.ok y):∃e a g,x=.ok (.mk e a g)/\f e a g=.ok y:=by
 cases x with
 |error e=>cases h
 |ok z=>obtain⟨e,a,g⟩:=z;exact⟨e,a,g,rfl,h⟩
def X.ex:X->Exit| .normal=>.normal| .exit id=>.exit id| .ret=>.ret
def Ends(p:Rho)(h:H)(w:World)(x:X)(b:A)(g:H)(n:Nat)(ds:List Deferred)(Q:Exit->Act->World->Prop):Prop:=∀q a' w',Ext p h w q g w'->HR q g w'.heap->AS q a' b n->a'.defers=ds->Q x.ex a' w'
theorem Ends.on {p q:Rho}{h g f:H}{w v:World}{x:X}{b:A}{ds:List Deferred}{Q:Exit->Act->World->Prop}(K:Ends p h w x b f n ds Q)(E:Ext p h w q g v):Ends q g v x b f n ds Q:=fun r a' w' E' H' A' D'=>K r a' w' (E.trans E') H' A' D'
def BJ(P:Ia)(n:Nat)(k:ul):Prop:=(∀c b h x b' g,k c b h=.ok (.mk x b' g)->∀p a w Q,AS p a b n->HR p h w.heap->Ends p h w x b' g n a.defers Q->c.wp P Q a w)/\
 (∀c b h x b' g,k (.loop c) b h=.ok (.mk x b' g)->∃m,∀p a w Q,AS p a b n->HR p h w.heap->Ends p h w x b' g n a.defers Q->Code.rounds P c Q m a w)
theorem zr {ops:Array Oper}{draw:Bool}{id:Nat}{k:ul}{x:X}{Q:Exit->Act->World->Prop}(hm:P.follows .mixedOrders=G6)(C:dY P call)(e:xA ops draw P call n k b h=.ok (.mk x b' g))(A':AS p a b n)(H':HR p h w.heap)(K:Ends p h w x b' g n a.defers Q):(Code.region id ops draw).wp P Q a w:=by
 obtain⟨b1,g1,e1,e⟩:=Gj e;cases e;cases draw with
 |true=>exact zo hm C A' H' e1 K
 | false =>
   refine wp_region_list ?_;exact yZ C A' H' e1 K
theorem oV(hm:P.follows .mixedOrders=G6)(C:dY P call):∀m,BJ P n (g9 P call n m)
 |0=>⟨fun c b h x b' g e=>(by cases e),fun c b h x b' g e=>(by cases e)⟩
 | m + 1 => by
   obtain⟨ih,ihl⟩:=oV hm C m;have loops:∀c b h x b' g,g9 P call n (m+1) (.loop c) b h=.ok (.mk x b' g)->∃m,∀p a w Q,AS p a b n->HR p h w.heap->Ends p h w x b' g n a.defers Q->Code.rounds P c Q m a w:=by
    intro c b h x b' g e;obtain⟨e1,b1,h1,e2,e⟩:=qr (show rx (g9 P call n m c b h) (Dw (.loop c) (g9 P call n m))=.ok (.mk x b' g)from e);cases e1 with
    | normal =>
      obtain⟨k,hk⟩:=ihl c b1 h1 x b' g e;refine⟨k+1,fun p a w Q A' H' K=>ih c b h _ b1 h1 e2 p a w _ A' H' fun q a1 w1 E1 H1 A1 D1=>?_⟩;exact hk q a1 w1 Q A1 H1 (by rw[D1];exact K.on E1)
    | exit id =>
      cases e;exact⟨1,fun p a w Q A' H' K=>ih c b h _ _ _ e2 p a w _ A' H' fun q a1 w1 E1 H1 A1 D1=>K q a1 w1 E1 H1 A1 D1⟩
    | ret =>
      cases e;exact⟨1,fun p a w Q A' H' K=>ih c b h _ _ _ e2 p a w _ A' H' fun q a1 w1 E1 H1 A1 D1=>K q a1 w1 E1 H1 A1 D1⟩
   refine⟨fun c b h x b' g e p a w Q A' H' K=>?_,loops⟩;cases c with
   |skip=>cases e;exact wp_skip (K p a w (Ext.refl p h w) H' A' rfl)
   |label l=>cases e;exact wp_label (K p a w (Ext.refl p h w) H' A' rfl)
   |exit id=>cases e;exact wp_exit (K p a w (Ext.refl p h w) H' A' rfl)
   |ret=>cases e;exact wp_ret (K p a w (Ext.refl p h w) H' A' rfl)
   |region id ops draw=>exact zr (id:=id) (k:=g9 P call n m) hm C e A' H' K
   | seq y z =>
     obtain⟨e1,b1,h1,e2,e⟩:=qr (show rx (g9 P call n m y b h) (Dw z (g9 P call n m))=.ok (.mk x b' g)from e);refine wp_seq ?_;cases e1 with
     |normal=>exact ih y b h _ b1 h1 e2 p a w _ A' H' fun q a1 w1 E1 H1 A1 D1=>ih z b1 h1 x b' g e q a1 w1 Q A1 H1 (by rw[D1];exact K.on E1)
     |exit id=>cases e;exact ih y b h _ _ _ e2 p a w _ A' H' fun q a1 w1 E1 H1 A1 D1=>K q a1 w1 E1 H1 A1 D1
     |ret=>cases e;exact ih y b h _ _ _ e2 p a w _ A' H' fun q a1 w1 E1 H1 A1 D1=>K q a1 w1 E1 H1 A1 D1
   | cond c y z =>
     obtain⟨t,e1,e⟩:=R.b_ok (show R.b (iG (b.ev c)) (fun t=>g9 P call n m (Hj z y t) b h)=.ok (.mk x b' g)from e);have hc:=A'.ar.eval c;rw[lT e1]at hc;refine wp_cond (hc.same rfl) ?_;cases t with
     |true=>exact ih y b h x b' g e p a w Q A' H' K
     |false=>exact ih z b h x b' g e p a w Q A' H' K
   | block id c =>
     obtain⟨e1,b1,h1,e2,e⟩:=qr (show rx (g9 P call n m c b h) (BH id)=.ok (.mk x b' g)from e);refine wp_block (ih c b h _ b1 h1 e2 p a w _ A' H' fun q a1 w1 E1 H1 A1 D1=>?_);cases e1 with
     |normal=>cases e;exact K q a1 w1 E1 H1 A1 D1
     |ret=>cases e;exact K q a1 w1 E1 H1 A1 D1
     | exit j =>
       have e:(.ok (.mk (Hj (motive:=fun _=>X) (.exit j) .normal (Ib j id)) b1 h1):R RX)=.ok (.mk x b' g):=e;show if j=id then Q .normal a1 w1 else Q (.exit j) a1 w1
       cases hj:Ib j id with
       | true =>
         rw[hj]at e;cases e;rw[Nat.beq_eq]at hj;rw[if_pos hj];exact K q a1 w1 E1 H1 A1 D1
       | false =>
         rw[hj]at e;cases e;rw[if_neg (fun k=>by rw[<-Nat.beq_eq,hj]at k;cases k)];exact K q a1 w1 E1 H1 A1 D1
   | loop c =>
     obtain⟨k,hk⟩:=loops c b h x b' g e;exact wp_loop_rounds k (hk p a w Q A' H' K)
   |_=>cases e
theorem um:∀(l:List Value) (i:Nat) (t:A) (j:Nat),(qq l i t).get If j=if i<=j/\j<i+l.length then l.getD (j-i) If else t.get If j
 |[],i,t,j=>by rw[if_neg (fun h=>by have:=h.2;have:=h.1;simp at*;omega)];rfl
 | v :: l, i, t, j => by
   show(qq l (i+1) (t.set If i v)).get If j=_;rw[um l (i+1),T.get_set];by_cases h1:i=j
   ·subst h1;rw[if_neg (by omega),if_pos rfl,if_pos ⟨G8 _,by simp⟩];simp
   ·by_cases h2:i+1<=j/\j<i+1+l.length
    ·rw[if_pos h2,if_pos ⟨by omega,by simp;omega⟩];obtain⟨k,rfl⟩:∃k,j=i+1+k:=⟨j-(i+1),by omega⟩
     rw[show i+1+k-(i+1)=k by omega,show i+1+k-i=k+1 by omega];rfl
    ·rw[if_neg h2,if_neg h1,if_neg (by simp;omega)]
theorem xC {vs us:List Value}(h:VRs p vs us){n:Nat}(hn:us.length<=n):AS p {tmps:=vs.toArray++Array.replicate (n-vs.toArray.size) If,defers:=[]} (qq us 0 .nil) n:=by
 have hl:=h.length;refine⟨⟨fun t=>?_⟩,by simp;omega⟩;rw[um];by_cases ht:t<us.length
 ·rw[if_pos ⟨Nat.zero_le _,by omega⟩];obtain⟨v,e1,e2⟩:=h.at (Jk ht);have:(vs.toArray++Array.replicate (n-vs.toArray.size) If).getD t If=v:=by
   rw[JG,Array.getElem?_append_left (by simp;omega)];simp[e1]
  rw[this];have:us.getD (t-0) If=us[t]:=by simp[ht]
  rw[this];exact e2
 ·rw[if_neg (by omega),T.get_nil];have:(vs.toArray++Array.replicate (n-vs.toArray.size) If).getD t If=If:=by
   rw[JG,Array.getElem?_append_right (by simp;omega),Array.getElem?_replicate];split<;>rfl
  rw[this];exact .tuple .nil
def BK(tmps:Array Value):ResultVar->Sem Value
 | .tmp t=>pure (tmps.getD t If)
 | .cell d t=>do loadVar t (<-asAddr (tmps.getD d If))
theorem Fp {l:List ResultVar}:∀{us:List Value},Dy P b h l=.ok us->AR p a b->HR p h w.heap->∃vs,VRs p vs us/\(l.mapM (BK a.tmps)).run P w=.ok vs w:=by
 induction l with
 |nil=>intro us e _ _;cases e;exact⟨[],.nil,by rw[List.mapM_nil,Sem.run_pure]⟩
 | cons r l ih =>
   intro us e A' H';obtain⟨u,e1,e⟩:=R.b_ok (show R.b (Gi P b h r) (fun v=>R.b (Dy P b h l) fun l=>.ok (v::l))=.ok us from e);obtain⟨ur,e2,e⟩:=R.b_ok e;cases e;obtain⟨vs,h1,h2⟩:=ih e2 A' H';have key:∃v,VR p v u/\(BK a.tmps r).run P w=.ok v w:=by
    cases r with
    |tmp t=>cases e1;exact⟨_,A'.tmp t,by unfold BK;rw[Sem.run_pure]⟩
    | cell d t =>
      have e1:gU P h t (b.get If d)=.ok u:=e1;obtain⟨v,e3,e4⟩:=oJ (P:=P) H' (A'.tmp d) e1;obtain⟨bk,off,bl,p1,_⟩:=uk e1;have hv:=A'.tmp d;rw[p1]at hv;refine⟨v,e4,?_⟩;show(do loadVar t (<-asAddr (a.tmps.getD d If)):Sem Value).run P w=_;generalize a.tmps.getD d If=x at*
      cases hv with
      |ptr hx=>exact e3
   obtain⟨v,k1,k2⟩:=key;refine⟨v::vs,.cons k1 h1,?_⟩;rw[List.mapM_cons,It,k2,Ji,It,h2,Ji,Sem.run_pure]
theorem oW {fn:Func}{u:Value}{g:H}{x:X}(e:BI P fn x b h=.ok (.mk u g))(A':AR p a b)(H':HR p h w.heap):g=h/\vU x=G7/\∃v,VR p v u/\(results fn a.tmps).run P w=.ok v w:=by
 unfold BI at e;cases hx:vU x with
 |true=>rw[hx]at e;cases e
 | false =>
   rw[hx]at e;obtain⟨us,e1,e⟩:=R.b_ok (show R.b (Dy P b h fn.results.toList) (fun l=>ret (one l) h)=.ok (.mk u g)from e);obtain⟨rfl,rfl⟩:=bP e;obtain⟨vs,h1,h2⟩:=Fp e1 A' H';have hr:(results fn a.tmps).run P w=.ok (if h:vs.toArray.size=1 then vs.toArray[0]else .tuple vs.toArray) w:=by
    have:results fn a.tmps=(do let vs<-fn.results.mapM (BK a.tmps);pure (if h:vs.size=1 then vs[0]else .tuple vs):Sem Value):=rfl;rw[this,Array.mapM_eq_mapM_toList,It];have h3:(Functor.map List.toArray (List.mapM (BK a.tmps) fn.results.toList):Sem (Array Value)).run P w=.ok vs.toArray w:=by
     rw[map_eq_pure_bind,It,h2,Ji,Sem.run_pure]
    rw[h3,Ji,Sem.run_pure]
   refine⟨rfl,rfl,_,?_,hr⟩;cases h1 with
   |nil=>exact .tuple .nil
   | cons k1 k2 =>
     cases k2 with
     |nil=>exact k1
     |cons k2 k3=>exact .tuple (.cons k1 (.cons k2 k3))
def uq (P : Ia) : Prop := ∀ (f : FuncId) (fn : Func), P.funcs[f]? = some fn → (fn.name == "runtime.NumGoroutine") = false
theorem zs {f:FuncId}{fn:Func}{c:Code}{args:Array Value}(hn:uq P)(hf:P.funcs[f]? =G5 fn)(hb:fn.body=G5 c):(callFunc f args).run P w=.ok (.enter f args) w:=by
 have h1:=hn f fn hf;have h2 : ¬ fn.name = "runtime.NumGoroutine" := by simpa using h1
 simp[callFunc,program,Sem.run,Result.andThen,hf,hb,h2,It]
theorem Dz(hm:P.follows .mixedOrders=G6)(hn:uq P)(C:dY P call){big:Nat}{fn:Func}{f:FuncId}{us vs:List Value}{u:Value}(hf:P.funcs[f]? =G5 fn)(e:xB P call big fn f us h=.ok (.mk u g))(H':HR p h w.heap)(V':VRs p vs us):OpR P p h w ((callFunc f vs.toArray).run P w) u g:=by
 unfold xB at e;cases hb:fn.body with
 |none=>rw[hb]at e;cases e
 | some c =>
   rw[hb]at e;obtain⟨e1,e⟩:=aT (show bp (Nat.ble (len us) fn.ntmps) (rx (g9 P call fn.ntmps big c (qq us 0 .nil) h) (BI P fn))=.ok (.mk u g)from e);obtain⟨x,b1,g1,e2,e⟩:=qr e;refine .inr ⟨f,vs.toArray,zs hn hf hb,calls_of_wp hf hb ?_⟩;have hlen:len us=us.length:=gc us;refine(oV hm C big).1 c _ h x b1 g1 e2 p _ w _ (xC V' (by have:=dK e1;omega)) H' fun q a' w' E1 H1 A1 D1=>?_
   obtain⟨rfl,hx,v,k1,k2⟩:=oW e A1.ar H1;cases x with
   |normal=>exact⟨D1,v,k2,q,v,rfl,E1,H1,k1⟩
   |ret=>exact⟨D1,v,k2,q,v,rfl,E1,H1,k1⟩
   |exit id=>cases hx
def qs(P:Ia)(orc:Orc):Prop:=∀f us h u g,orc P f us h=G5 (.ok (.mk u g))->∀p w vs,HR p h w.heap->VRs p vs us->OpR P p h w ((callFunc f vs.toArray).run P w) u g
theorem ll(hm:P.follows .mixedOrders=G6)(hn:uq P){orc:Orc}(O:qs P orc){big:Nat}:∀n,dY P (dN P orc big n)
 |0=>fun f us h u g e=>by cases e
 | n + 1 => fun f us h u g e p w vs H' V' => by
   have e:rV P orc big (dN P orc big n) f us h=.ok (.mk u g):=e;unfold rV at e;cases ho:orc P f us h with
   | some r =>
     rw[ho]at e;have e:r=.ok (.mk u g):=e;subst e;exact O f us h u g ho p w vs H' V'
   | none =>
     rw[ho]at e;obtain⟨fn,e1,e⟩:=R.b_ok (show R.b (GG P.funcs[f]?) (fun fn=>xB P (dN P orc big n) big fn f us h)=.ok (.mk u g)from e);exact Dz hm hn (ll hm hn O n) (bF e1) e H' V'
end Go.Ev
