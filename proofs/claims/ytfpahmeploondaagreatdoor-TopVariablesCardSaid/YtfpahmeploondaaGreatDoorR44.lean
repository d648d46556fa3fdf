/- Walks and plain facts for the law on type variables, for all values and types that the heap holds (texts Ey Ez Fa Fb). -/
import Derived.Test.YtfpahmeploondaaGreatDoorR03
import Derived.Test.YtfpahmeploondaaGreatDoorR33
import Derived.Test.YtfpahmeploondaaGreatDoorR43
set_option linter.unusedVariables false
set_option linter.unusedSimpArgs false
set_option maxHeartbeats 64000000
open Option renaming none -> G0, some -> G5
open Bool renaming true -> G6, false -> G7
open Array renaming getElem?_setIfInBounds_ne -> JC, getD_eq_getD_getElem? -> JG, getElem?_eq_some_iff -> I6
open List renaming getElem?_eq_some_iff -> I2, mem_append -> Ir, mem_cons -> Ix
open Nat renaming lt_of_lt_of_le -> Ig, le_trans -> G9, lt_or_ge -> IT, le_refl -> G8, beq_eq -> I1, beq -> Ib
open Bool renaming and_eq_true -> Ik, or_eq_true -> IE, rec -> Hj
open Go renaming undef -> If, Program -> Ia
namespace Go.Ev
set_option linter.unusedSectionVars false
variable {α β γ:Type} {p q:Rho} {P:Ia}
inductive StepF (P:Ia) (call:bU) (n:Nat) (all:Array Oper) (s:ST) (d:DS):Value->DS->Prop
 |skip (w:cE s.o.guard all d.a=.ok G7):StepF P call n all s d If ⟨iM s.o.dst n d.a If,d.h,d.hk,d.lvs,d.lds,d.al,d.xs⟩
 |same {u:Value} {g:H} (w:cE s.o.guard all d.a=.ok G6) (e:opT s.o.op P call d.a (.mk .nil d.h.n) s.o=.ok (.mk u g)) (hn:g.n=d.h.n):StepF P call n all s d u ⟨iM s.o.dst n d.a u,d.h,d.hk,d.lvs,d.lds,d.al,d.xs⟩
 |new {u:Value} {g:H} {b:Blk} (w:cE s.o.guard all d.a=.ok G6) (e:opT s.o.op P call d.a (.mk .nil d.h.n) s.o=.ok (.mk u g)) (hn:g.n=d.h.n+1) (hb:g.get d.h.n=G5 b):
  StepF P call n all s d u ⟨iM s.o.dst n d.a u,d.h.new b,d.hk,d.lvs,d.lds,Nat.lor d.al (bit s.i),d.xs⟩
 |load {u:Value} {t:TypeId} {x:Operand} (w:cE s.o.guard all d.a=.ok G6) (ho:s.o.op=.load t x) (e:gU P d.hk t (d.a.ev x)=.ok u) (hb:below d.hk.n u=G6):
  StepF P call n all s d u ⟨iM s.o.dst n d.a u,d.h,d.hk,d.lvs,⟨s.i,s.anc,t,d.a.ev x,u⟩::d.lds,d.al,d.xs⟩
 |act {u:Value} {h:H} (w:cE s.o.guard all d.a=.ok G6) (h1:sub d.al s.anc=G6) (h2:sub d.xs s.anc=G6) (e:opT s.o.op P call d.a d.h s.o=.ok (.mk u h)) (hn:d.h.n<=h.n):
  StepF P call n all s d u ⟨iM s.o.dst n d.a u,h,h,⟨Nat.lor d.xs (bit s.i),s.anc,h⟩::d.lvs,d.lds,d.al,Nat.lor d.xs (bit s.i)⟩
section
variable {call:bU} {n:Nat} {all:Array Oper}
theorem Bw {h g h':H}(e:vO h g=.ok h'):(g.n=h.n/\h'=h)\/(g.n=h.n+1/\∃b,g.get h.n=G5 b/\h'=h.new b):=by
 unfold vO at e;cases h1:Ib g.n h.n with
 |true=>rw[h1]at e;cases e;rw[I1]at h1;exact .inl ⟨h1,rfl⟩
 | false =>
   rw[h1]at e;have e:(Hj (.error ()) (R.b (GG (g.get h.n)) fun b=>.ok (h.new b)) (Ib g.n (Nat.succ h.n)):R H)=.ok h':=e;cases h2:Ib g.n (Nat.succ h.n)with
   |false=>rw[h2]at e;cases e
   | true =>
     rw[h2]at e;rw[I1]at h2;obtain⟨b,e1,e2⟩:=R.b_ok (show R.b (GG (g.get h.n)) (fun b=>.ok (h.new b))=.ok h' from e);cases e2;exact .inr ⟨h2,b,bF e1,rfl⟩
theorem Du {s:ST}{k:KD}{d:DS}{y:AH}(w:cE s.o.guard all d.a=.ok G6)(e:xr P call n s k d=.ok y):∃u d',StepF P call n all s d u d'/\k d'=.ok y:=by
 unfold xr at e;obtain⟨_,o,i,c,anc,_,_⟩:=s
 match c,e with
 | 0, e =>
   obtain⟨v,g,e1,e⟩:=A5 (show vh (opT o.op P call d.a (.mk .nil d.h.n) o) _=.ok y from e);obtain⟨h,e2,e⟩:=R.b_ok e;rcases Bw e2 with⟨h1,rfl⟩|⟨h1,b,h2,rfl⟩
   ·refine⟨v,_,.same w e1 h1,?_⟩;have hg:grown d.h g i d.al=d.al:=by
     unfold grown;rw[show Ib g.n d.h.n=G6 by rw[I1];exact h1]
    rw[hg]at e;exact e
   ·refine⟨v,_,.new w e1 h1 h2,?_⟩;have hg:grown d.h g i d.al=Nat.lor d.al (bit i):=by
     unfold grown;have:Ib g.n d.h.n=false:=by
      cases hb:Ib g.n d.h.n with
      |false=>rfl
      |true=>rw[I1]at hb;omega
     rw[this]
    rw[hg]at e;exact e
 | 1, e =>
   have e:vP o.op (fun t x=>R.b (gU P d.hk t (d.a.ev x)) fun v=>bp (below d.hk.n v) (k ⟨iM o.dst n d.a v,d.h,d.hk,d.lvs,⟨i,anc,t,d.a.ev x,v⟩::d.lds,d.al,d.xs⟩))=.ok y:=e;unfold vP at e;split at e
   ·rename_i t x ho;obtain⟨v,e1,e⟩:=R.b_ok e;obtain⟨e2,e⟩:=aT e;exact⟨v,_,.load w ho e1 e2,e⟩
   ·cases e
 | c + 2, e =>
   obtain⟨e1,e⟩:=aT (show bp (sub d.al anc) _=.ok y from e);obtain⟨e2,e⟩:=aT e;obtain⟨v,h,e3,e⟩:=A5 e;obtain⟨e4,e⟩:=aT e;exact⟨v,_,.act w e1 e2 e3 (dK e4),e⟩
structure Run(P:Ia)(call:bU)(n:Nat)(all:Array Oper)(l:List ST)(d0:DS)(b:A)(g:H)(ds:Nat->DS)(us:Nat->Value):Prop where
 zero:ds 0=d0
 step:∀i s,l[i]? =G5 s->StepF P call n all s (ds i) (us i) (ds (i+1))
 chk:Dt P (ds l.length)=G6
 last:(ds l.length).a=b/\(ds l.length).h=g
theorem xx:∀{l:List ST} {d:DS} {b:A} {g:H},Bq P call n all l d=.ok (.mk b g)->∃ds us,Run P call n all l d b g ds us
 | [], d, b, g, e => by
   obtain⟨e1,e⟩:=aT (show bp (Dt P d) (.ok (.mk d.a d.h))=.ok (AH.mk b g)from e);cases e;exact⟨fun _=>d,fun _=>If,rfl,fun i s h=>(by cases(show([]:List ST)[i]? =G5 s from h)),e1,rfl,rfl⟩
 | s :: l, d, b, g, e => by
   obtain⟨c,e1,e⟩:=R.b_ok (show R.b (cE s.o.guard all d.a) (fun c=>Hj (Ea n s (Bq P call n all l) d) (xr P call n s (Bq P call n all l) d) c)=.ok (AH.mk b g)from e);have key:∃u d',StepF P call n all s d u d'/\Bq P call n all l d'=.ok (.mk b g):=by
    cases c with
    |true=>exact Du e1 e
    |false=>exact⟨_,_,.skip e1,e⟩
   obtain⟨u,d',h1,h2⟩:=key;obtain⟨ds,us,h0,hs,hc,hl⟩:=xx h2;refine⟨fun i=>match i with|0=>d|i+1=>ds i,fun i=>match i with|0=>u|i+1=>us i,rfl,fun i r hr=>?_,hc,hl⟩;cases i with
   | zero =>
     have hr:G5 s=G5 r:=hr;cases hr;show StepF P call n all s d u (ds 0);rw[h0];exact h1
   |succ i=>exact hs i r hr
end
section
variable {call:bU} {n:Nat} {all:Array Oper} {a0:A} {h0:H} {b:A} {g:H} {ds:Nat->DS} {us:Nat->Value}
def cR(ds:Nat->DS)(i:Nat):Prop:=(ds (i+1)).al.testBit i=G6
def dl(ds:Nat->DS)(i:Nat):Prop:=(ds (i+1)).xs.testBit i=G6
inductive GE (s:ST) (d d':DS):Prop
 |quiet (h:d'.h=d.h) (hk:d'.hk=d.hk) (lv:d'.lvs=d.lvs) (al:d'.al=d.al) (xs:d'.xs=d.xs)
 |new (bl:Blk) (h:d'.h=d.h.new bl) (hk:d'.hk=d.hk) (lv:d'.lvs=d.lvs) (al:d'.al=Nat.lor d.al (bit s.i)) (xs:d'.xs=d.xs)
 |act (h:d'.hk=d'.h) (hn:d.h.n<=d'.h.n) (lv:d'.lvs=⟨Nat.lor d.xs (bit s.i),s.anc,d'.h⟩::d.lvs) (al:d'.al=d.al) (xs:d'.xs=Nat.lor d.xs (bit s.i)) (h1:sub d.al s.anc=G6) (h2:sub d.xs s.anc=G6)
theorem StepF.kind {s:ST}{d d':DS}{u:Value}(h:StepF P call n all s d u d'):GE s d d':=by
 cases h with
 |skip w=>exact .quiet rfl rfl rfl rfl rfl
 |same w e hn=>exact .quiet rfl rfl rfl rfl rfl
 |new w e hn hb=>exact .new _ rfl rfl rfl rfl rfl
 |load w ho e hb=>exact .quiet rfl rfl rfl rfl rfl
 |act w h1 h2 e hn=>exact .act rfl hn rfl rfl rfl h1 h2
theorem StepF.put {s:ST}{d d':DS}{u:Value}(h:StepF P call n all s d u d'):d'.a=iM s.o.dst n d.a u:=by cases h<;>rfl
theorem StepF.lds {s:ST}{d d':DS}{u:Value}(h:StepF P call n all s d u d'):∀x∈d.lds,x∈d'.lds:=by
 cases h with
 |load w ho e hb=>exact fun x hx=>Ix.2 (.inr hx)
 |_=>exact fun x hx=>hx
abbrev Dv(P:Ia)(call:bU)(n:Nat)(all:Array Oper)(a0:A)(h0:H)(b:A)(g:H)(ds:Nat->DS)(us:Nat->Value):Prop:=Run P call n all (aW all) (rI a0 h0) b g ds us
variable (T':Dv P call n all a0 h0 b g ds us) (K':ue n all)
include T'
theorem gz {i:Nat}(h:i<(aW all).length):∃s,(aW all)[i]? =G5 s/\StepF P call n all s (ds i) (us i) (ds (i+1))/\s.i=i:=by
 have e:=List.getElem?_eq_getElem h;exact⟨_,e,T'.step i _ e,(fu e).2.1⟩
theorem Bx:∀{i:Nat},i<=(aW all).length->∀j,(ds i).xs.testBit j=G6->j<i:=by
 intro i
 induction i with
 |zero=>intro _ j h;rw[T'.zero]at h;exact absurd h (by simp[rI])
 | succ i ih =>
   intro hi j h;obtain⟨s,_,hs,si⟩:=gz T' (i:=i) (by omega);have ih:=ih (by omega) j;cases hs.kind with
   |quiet _ _ _ _ xs=>rw[xs]at h;have:=ih h;omega
   |new _ _ _ _ _ xs=>rw[xs]at h;have:=ih h;omega
   | act _ _ _ _ xs _ _ =>
     rw[xs,gN,IE,iK]at h;rcases h with h|h
     ·have:=ih h;omega
     ·omega
theorem Eb:∀{i:Nat},i<=(aW all).length->∀j,(ds i).al.testBit j=G6->j<i:=by
 intro i
 induction i with
 |zero=>intro _ j h;rw[T'.zero]at h;exact absurd h (by simp[rI])
 | succ i ih =>
   intro hi j h;obtain⟨s,_,hs,si⟩:=gz T' (i:=i) (by omega);have ih:=ih (by omega) j;cases hs.kind with
   |quiet _ _ _ al _=>rw[al]at h;have:=ih h;omega
   |act _ _ _ al _ _ _=>rw[al]at h;have:=ih h;omega
   | new _ _ _ _ al _ =>
     rw[al,gN,IE,iK]at h;rcases h with h|h
     ·have:=ih h;omega
     ·omega
theorem oR {i:Nat}{s:ST}(hs:(aW all)[i]? =G5 s):(¬cR ds i/\ ¬dl ds i/\(ds (i+1)).h=(ds i).h/\(ds (i+1)).hk=(ds i).hk)\/
 (cR ds i/\ ¬dl ds i/\(∃bl,(ds (i+1)).h=(ds i).h.new bl)/\(ds (i+1)).hk=(ds i).hk)\/
 (¬cR ds i/\dl ds i/\(ds (i+1)).hk=(ds (i+1)).h/\(ds i).h.n<=(ds (i+1)).h.n/\sub (ds i).al s.anc=G6/\sub (ds i).xs s.anc=G6/\(ds (i+1)).lvs=⟨(ds (i+1)).xs,s.anc,(ds (i+1)).h⟩::(ds i).lvs):=by
 have hi:=(I2.1 hs).1;have si:=(fu hs).2.1;have nx: ¬(ds i).xs.testBit i=true:=fun h=>by have:=Bx T' (by omega) i h;omega
 have na: ¬(ds i).al.testBit i=true:=fun h=>by have:=Eb T' (by omega) i h;omega
 cases(T'.step i s hs).kind with
 |quiet h hk lv al xs=>exact .inl ⟨by unfold cR;rw[al];exact na,by unfold dl;rw[xs];exact nx,h,hk⟩
 | new bl h hk lv al xs =>
   refine .inr (.inl ⟨?_,by unfold dl;rw[xs];exact nx,⟨bl,h⟩,hk⟩);unfold cR;rw[al,gN,IE,iK];exact .inr si
 | act h hn lv al xs h1 h2 =>
   refine .inr (.inr ⟨by unfold cR;rw[al];exact na,?_,h,hn,h1,h2,?_⟩)
   ·unfold dl;rw[xs,gN,IE,iK];exact .inr si
   ·rw[lv,xs]
theorem rN {i:Nat}(hi:i<(aW all).length):(ds i).h.n<=(ds (i+1)).h.n:=by
 obtain⟨s,hs,_,_⟩:=gz T' hi;rcases oR T' hs with⟨_,_,h,_⟩|⟨_,_,⟨bl,h⟩,_⟩|⟨_,_,_,h,_⟩
 ·rw[h];exact G8 _
 ·rw[h,H.n_new];exact Nat.le_succ _
 ·exact h
theorem cJ {i:Nat}:∀{j:Nat},i<=j->j<=(aW all).length->(ds i).h.n<=(ds j).h.n:=by
 intro j
 induction j with
 |zero=>intro h _;rw[show i=0 by omega];exact G8 _
 | succ j ih =>
   intro h hj;rcases IT j i with h'|h'
   ·rw[show i=j+1 by omega];exact G8 _
   ·exact G9 (ih h' (by omega)) (rN T' (by omega))
theorem rO {i:Nat}(hi:i<(aW all).length)(h:cR ds i):(ds (i+1)).h.n=(ds i).h.n+1:=by
 obtain⟨s,hs,_,_⟩:=gz T' hi;rcases oR T' hs with⟨k,_⟩|⟨_,_,⟨bl,h⟩,_⟩|⟨k,_⟩
 ·exact absurd h k
 ·rw[h,H.n_new]
 ·exact absurd h k
theorem xy {j:Nat}:∀{i:Nat},j<i->i<=(aW all).length->((ds i).xs.testBit j=G6<->dl ds j):=by
 intro i
 induction i with
 |zero=>intro h;omega
 | succ i ih =>
   intro hj hi;rcases IT j i with h'|h'
   ·rw[<-ih h' (by omega)];obtain⟨s,_,hs,si⟩:=gz T' (i:=i) (by omega);cases hs.kind with
    |quiet _ _ _ _ xs=>rw[xs]
    |new _ _ _ _ _ xs=>rw[xs]
    |act _ _ _ _ xs _ _=>rw[xs,gN,IE,iK];exact⟨fun h=>h.elim id fun h=>by omega,.inl⟩
   ·rw[show i=j by omega];exact Iff.rfl
theorem Ec {j:Nat}:∀{i:Nat},j<i->i<=(aW all).length->((ds i).al.testBit j=G6<->cR ds j):=by
 intro i
 induction i with
 |zero=>intro h;omega
 | succ i ih =>
   intro hj hi;rcases IT j i with h'|h'
   ·rw[<-ih h' (by omega)];obtain⟨s,_,hs,si⟩:=gz T' (i:=i) (by omega);cases hs.kind with
    |quiet _ _ _ al _=>rw[al]
    |act _ _ _ al _ _ _=>rw[al]
    |new _ _ _ _ al _=>rw[al,gN,IE,iK];exact⟨fun h=>h.elim id fun h=>by omega,.inl⟩
   ·rw[show i=j by omega];exact Iff.rfl
theorem uf {i:Nat}:∀{j:Nat},i<=j->j<=(aW all).length->∀x∈(ds i).lvs,x∈(ds j).lvs:=by
 intro j
 induction j with
 |zero=>intro h _;rw[show i=0 by omega];exact fun x h=>h
 | succ j ih =>
   intro h hj x hx;rcases IT j i with h'|h'
   ·rw[show i=j+1 by omega]at hx;exact hx
   ·have:=ih h' (by omega) x hx;obtain⟨s,_,hs,_⟩:=gz T' (i:=j) (by omega);cases hs.kind with
    |quiet _ _ lv _ _=>rw[lv];exact this
    |new _ _ _ lv _ _=>rw[lv];exact this
    |act _ _ lv _ _ _ _=>rw[lv];exact Ix.2 (.inr this)
theorem By {i:Nat}:∀{j:Nat},i<=j->j<=(aW all).length->∀x∈(ds i).lds,x∈(ds j).lds:=by
 intro j
 induction j with
 |zero=>intro h _;rw[show i=0 by omega];exact fun x h=>h
 | succ j ih =>
   intro h hj x hx;rcases IT j i with h'|h'
   ·rw[show i=j+1 by omega]at hx;exact hx
   ·obtain⟨s,_,hs,_⟩:=gz T' (i:=j) (by omega);exact hs.lds x (ih h' (by omega) x hx)
theorem Fm {t:Nat}:∀{i:Nat},t<=i->i<=(aW all).length->(∀j,t<=j->j<i->¬dl ds j)->∀m bl,(ds i).h.get m=G5 bl->(ds t).h.get m=G5 bl\/∃j,t<=j/\j<i/\cR ds j/\m=(ds j).h.n/\(ds (j+1)).h.get m=G5 bl:=by
 intro i
 induction i with
 |zero=>intro h _ _ m bl e;rw[show t=0 by omega];exact .inl e
 | succ i ih =>
   intro h hi hn m bl e;rcases IT i t with h'|h'
   ·rw[show t=i+1 by omega];exact .inl e
   ·have ih:=ih h' (by omega) (fun j h1 h2=>hn j h1 (by omega)) m bl;have up:((ds t).h.get m=G5 bl\/∃j,t<=j/\j<i/\cR ds j/\m=(ds j).h.n/\(ds (j+1)).h.get m=G5 bl)->((ds t).h.get m=G5 bl\/∃j,t<=j/\j<i+1/\cR ds j/\m=(ds j).h.n/\(ds (j+1)).h.get m=G5 bl):=by
     rintro(h|⟨j,a,b,c⟩)
     ·exact .inl h
     ·exact .inr ⟨j,a,by omega,c⟩
    obtain⟨s,hs,_,_⟩:=gz T' (i:=i) (by omega);rcases oR T' hs with⟨_,_,h,_⟩|⟨h1,_,⟨bk,h2⟩,_⟩|⟨_,h,_⟩
    ·rw[h]at e;exact up (ih e)
    ·have e0:=e;rw[h2,H.get_new]at e;split at e
     ·rename_i k;exact .inr ⟨i,h',by omega,h1,k.symm,e0⟩
     ·exact up (ih e)
    ·exact absurd h (hn i h' (by omega))
theorem xz {j:Nat}{s:ST}{x:Tmp}(hs:(aW all)[j]? =G5 s)(hd:s.o.dst=G5 x)(hx:x<n)(hone:∀i r,(aW all)[i]? =G5 r->r.o.dst=G5 x->i=j):∀{i:Nat},j<i->i<=(aW all).length->(ds i).a.get If x=us j:=by
 intro i
 induction i with
 |zero=>intro h;omega
 | succ i ih =>
   intro hj hi;obtain⟨r,hr,hst,_⟩:=gz T' (i:=i) (by omega);rw[hst.put];rcases IT j i with h'|h'
   ·rw[<-ih h' (by omega)];cases hq:r.o.dst with
    |none=>rfl
    | some y =>
      have hne:y≠x:=fun e=>by have:=hone i r hr (e▸hq);omega
      show(Hj (motive:=fun _=>A) (ds i).a ((ds i).a.set If y (us i)) (Nat.blt y n)).get If x=_;cases Nat.blt y n with
      |false=>rfl
      | true =>
        show((ds i).a.set If y (us i)).get If x=_;rw[T.get_set,if_neg hne]
   ·have:i=j:=by omega
    subst this;rw[hs]at hr;cases hr;rw[hd];show(Hj (motive:=fun _=>A) (ds i).a ((ds i).a.set If x (us i)) (Nat.blt x n)).get If x=_;rw[show Nat.blt x n=G6 by rw[Nat.blt_eq];exact hx];show((ds i).a.set If x (us i)).get If x=_;rw[T.get_set,if_pos rfl]
theorem Bz {x:Tmp}:∀{i:Nat},i<=(aW all).length->(∀j r,j<i->(aW all)[j]? =G5 r->r.o.dst≠G5 x)->(ds i).a.get If x=a0.get If x:=by
 intro i
 induction i with
 |zero=>intro _ _;rw[T'.zero];rfl
 | succ i ih =>
   intro hi hn;obtain⟨r,hr,hst,_⟩:=gz T' (i:=i) (by omega);rw[hst.put,<-ih (by omega) fun j r h=>hn j r (by omega)];cases hq:r.o.dst with
   |none=>rfl
   | some y =>
     have hne:y≠x:=fun e=>hn i r (by omega) hr (e▸hq)
     show(Hj (motive:=fun _=>A) (ds i).a ((ds i).a.set If y (us i)) (Nat.blt y n)).get If x=_;cases Nat.blt y n with
     |false=>rfl
     | true =>
       show((ds i).a.set If y (us i)).get If x=_;rw[T.get_set,if_neg hne]
end
end Go.Ev
namespace Go.Ev
set_option linter.unusedSectionVars false
variable {α β γ:Type} {p q:Rho} {P:Ia}
def Rho.cut(p:Rho)(k:Nat):Rho:=fun i=>if i<k then p i else G0
theorem b9 {rho:Rho}{k i:Nat}(h:i<k):rho.cut k i=rho i:=if_pos h
theorem fA {rho:Rho}{k i:Nat}(h:k<=i):rho.cut k i=none:=if_neg (by omega)
theorem gh {rho rho':Rho}{k j:Nat}(l:Le rho rho')(h:k<=j):Le (rho.cut k) (rho'.cut j):=by
 intro i x e;by_cases hi:i<k
 ·rw[b9 hi]at e;rw[b9 (by omega)];exact l _ _ e
 ·rw[fA (by omega)]at e;cases e
theorem BA {rho:Rho}{k:Nat}(h:∀i,k<=i->rho i=G0):rho.cut k=rho:=by
 funext i;by_cases hi:i<k
 ·exact b9 hi
 ·rw[fA (by omega),h i (by omega)]
structure GR(rho:Rho)(lev:Nat)(G:Nat->Blk->Prop)(hp:Array Obj):Prop where
 live:∀m b,G m b->∃x o,rho m=G5 x/\hp[x.r]? =G5 o/\BR (rho.cut (max lev (m+1))) x b o
 inj:∀i j b c x y,G i b->G j c->rho i=G5 x->rho j=G5 y->x.r=y.r->i=j
def BB(rho:Rho)(G:Nat->Blk->Prop)(b:Nat):Prop:=∀m c x,G m c->rho m=G5 x->x.r≠b
theorem GR.run {rho:Rho}{lev:Nat}{G:Nat->Blk->Prop}{w w':World}{hh g:H}{q:Rho}(R:GR rho lev G w.heap)(hsub:∀m b,hh.get m=G5 b->G m b)(E:Ext (rho.cut hh.n) hh w q g w')(H1:HR q g w'.heap)
 (hole:∀m,hh.n<=m->m<g.n->rho m=G0) {G':Nat->Blk->Prop} {lev':Nat} (hl:lev<=lev')
 (hG:∀m b,G' m b->(g.get m=G5 b/\g.n<=max lev' (m+1))\/(G m b/\(∀c,hh.get m≠G5 c)/\(m<hh.n\/g.n<=m))):
 ∃rho',Le rho rho'/\(∀m,m<hh.n->rho' m=rho m)/\(∀m,g.n<=m->rho' m=rho m)/\rho'.cut g.n=q/\GR rho' lev' G' w'.heap/\(∀b,b<w.heap.size->BB rho G b->w'.heap[b]? =w.heap[b]? /\BB rho' G' b):=by
 let rho':Rho:=fun m=>if m<g.n then q m else rho m
 have lo:∀m,m<hh.n->rho' m=rho m:=fun m hm=>by
  show(if m<g.n then q m else rho m)=rho m;rw[if_pos (Ig hm E.n),E.keep m hm,b9 hm]
 have hi:∀m,g.n<=m->rho' m=rho m:=fun m hm=>if_neg (by omega)
 have mid:∀m,m<g.n->rho' m=q m:=fun m hm=>if_pos hm
 have cut:rho'.cut g.n=q:=by
  funext m;by_cases hm:m<g.n
  ·rw[b9 hm,mid m hm]
  ·rw[fA (by omega),H1.fresh m (by omega)]
 have le:Le rho rho':=fun m x e=>by
  by_cases h1:m<hh.n
  ·rw[lo m h1];exact e
  ·by_cases h2:m<g.n
   ·rw[hole m (by omega) h2]at e;cases e
   ·rw[hi m (by omega)];exact e
 have out:∀m b x,G m b->(∀c,hh.get m≠G5 c)->rho m=G5 x->Off (rho.cut hh.n) hh x.r:=fun m b x h1 h2 h3 i c y e e1=>by
  by_cases h4:i<hh.n
  ·rw[b9 h4]at e1;intro h5;have:=R.inj i m c b y x (hsub i c e) h1 e1 h3 h5;subst this;exact h2 _ e
  ·rw[fA (by omega)]at e1;cases e1
 have eq:∀m,(m<hh.n\/g.n<=m)->rho' m=rho m:=fun m h=>h.elim (lo m) (hi m)
 refine⟨rho',le,lo,hi,cut,⟨fun m b h=>?_,fun i j b c x y hi' hj ei ej hr=>?_⟩,fun b hb h=>⟨?_,fun m c x hm e=>?_⟩⟩
 ·rcases hG m b h with⟨h1,h2⟩|⟨h1,h2,h3⟩
  ·obtain⟨x,o,e1,e2,e3⟩:=H1.live m b h1;refine⟨x,o,by rw[mid m (H1.lt h1)];exact e1,e2,e3.mono ?_⟩;rw[<-cut];exact gh (Le.refl _) h2
  ·obtain⟨x,o,e1,e2,e3⟩:=R.live m b h1;refine⟨x,o,by rw[eq m h3];exact e1,?_,e3.mono (gh le (by omega))⟩;rw[E.old x.r (I6.1 e2).1 (out m b x h1 h2 e1)];exact e2
 ·have lr:∀i j b c x y,g.get i=G5 b->G j c->(∀c,hh.get j≠G5 c)->rho' i=G5 x->rho j=G5 y->x.r≠y.r:=fun i j b c x y h1 h2 h3 e1 e2=>by
   rw[mid i (H1.lt h1)]at e1;obtain⟨z,o,f1,f2,_⟩:=R.live j c h2;rw[e2]at f1;cases f1;exact E.off y.r (I6.1 f2).1 (out j c y h2 h3 e2) i b x h1 e1
  rcases hG i b hi' with⟨h1,_⟩|⟨h1,h2,h3⟩
  ·rcases hG j c hj with⟨k1,_⟩|⟨k1,k2,k3⟩
   ·rw[mid i (H1.lt h1)]at ei;rw[mid j (H1.lt k1)]at ej;exact H1.inj i j b c x y h1 k1 ei ej hr
   ·rw[eq j k3]at ej;exact absurd hr (lr i j b c x y h1 k1 k2 ei ej)
  ·rcases hG j c hj with⟨k1,_⟩|⟨k1,k2,k3⟩
   ·rw[eq i h3]at ei;exact absurd hr.symm (lr j i c b y x k1 h1 h2 ej ei)
   ·rw[eq i h3]at ei;rw[eq j k3]at ej;exact R.inj i j b c x y h1 k1 ei ej hr
 ·refine E.old b hb fun i c x e e1=>?_
  by_cases h4:i<hh.n
  ·rw[b9 h4]at e1;exact h i c x (hsub i c e) e1
  ·rw[fA (by omega)]at e1;cases e1
 ·rcases hG m c hm with⟨h1,_⟩|⟨h1,h2,h3⟩
  ·rw[mid m (H1.lt h1)]at e;refine E.off b hb (fun i c x e e1=>?_) m c x h1 e;by_cases h4:i<hh.n
   ·rw[b9 h4]at e1;exact h i c x (hsub i c e) e1
   ·rw[fA (by omega)]at e1;cases e1
  ·rw[eq m h3]at e;exact h m c x h1 e
theorem jz(k:Nat)(l:List Value):below k (.agg ⟨l⟩)=l.all (below k):=by
 induction l with
 |nil=>rfl
 | cons v l ih =>
   show(Hj (motive:=fun _=>Bool) G7 (below k (.agg ⟨l⟩)) (below k v))=(below k v&&l.all (below k))
   cases below k v with
   |false=>rfl
   |true=>exact ih
theorem vR(k:Nat)(f:Fn)(a b:List Value):below k (.func f ⟨a⟩ ⟨b⟩)=(a.all (below k)&&b.all (below k)):=by
 show(Hj (motive:=fun _=>Bool) G7 (below k (.agg ⟨b⟩)) (below k (.agg ⟨a⟩)))=_;rw[jz,jz];cases a.all (below k)<;>rfl
theorem oS {k:Nat}{v u:Value}(h:VR p v u):below k u=G6->VR (p.cut k) v u:=by
 induction h using VR.rec (motive_2:=fun a b _=>b.all (below k)=G6->VRs (p.cut k) a b)with
 |bad v=>intro _;exact .bad v
 |bool b=>intro _;exact .bool b
 |int k n=>intro _;exact .int k n
 |float k n=>intro _;exact .float k n
 |complex k m n=>intro _;exact .complex k m n
 |string s=>intro _;exact .string s
 |ptr0=>intro _;exact .ptr0
 |ptr h=>intro e;exact .ptr (by rw[b9 (gK e)];exact h)
 |sl0 n c=>intro _;exact .sl0 n c
 |sl h=>intro e;exact .sl (by rw[b9 (gK e)];exact h)
 |slo h=>intro e;exact .slo (by rw[b9 (gK e)];exact h)
 |map0=>intro _;exact .map0
 |map h=>intro e;exact .map (by rw[b9 (gK e)];exact h)
 | func f _ _ ih1 ih2 =>
   intro e;rw[vR,Ik]at e;exact .func f (ih1 e.1) (ih2 e.2)
 |nilFunc=>intro _;exact .nilFunc
 |iface t _ ih=>intro e;exact .iface t (ih e)
 |nilIface=>intro _;exact .nilIface
 |agg _ ih=>intro e;rw[jz]at e;exact .agg (ih e)
 |tuple _ ih=>intro e;rw[show below k (.tuple ⟨_⟩)=below k (.agg ⟨_⟩)from rfl,jz]at e;exact .tuple (ih e)
 |nil=>exact .nil
 | cons _ _ ih1 ih2 =>
   rename_i e;rw[List.all_cons,Ik]at e;exact .cons (ih1 e.1) (ih2 e.2)
theorem ug(f:Nat->Value):∀n,∃b:A,∀t,b.get If t=if t<n then f t else If
 |0=>⟨.nil,fun t=>by rw[T.get_nil,if_neg (by omega)]⟩
 | n + 1 => by
   obtain⟨b,hb⟩:=ug f n;refine⟨b.set If n (f n),fun t=>?_⟩;rw[T.get_set];by_cases h:n=t
   ·subst h;rw[if_pos rfl,if_pos (by omega)]
   ·rw[if_neg h,hb];by_cases h2:t<n
    ·rw[if_pos h2,if_pos (by omega)]
    ·rw[if_neg h2,if_neg (by omega)]
theorem uh:∀(L:List Nat) (n:Nat),∃N,n<=N/\∀t∈L,t<N
 |[],n=>⟨n,G8 _,fun t h=>by cases h⟩
 | x :: L, n => by
   obtain⟨N,h1,h2⟩:=uh L n;refine⟨N+x+1,by omega,fun t h=>?_⟩;rcases Ix.1 h with rfl|h
   ·omega
   ·have:=h2 t h;omega
theorem vS {a:Act}(L:List Tmp)(f:Tmp->Value)(h:∀t∈L,VR p (a.tmps.getD t If) (f t)):∃b:A,AR p a b/\∀t∈L,b.get If t=f t:=by
 obtain⟨N,h1,h2⟩:=uh L a.tmps.size;obtain⟨b,hb⟩:=ug (fun t=>if t∈L then f t else bad) N;refine⟨b,⟨fun t=>?_⟩,fun t ht=>?_⟩
 ·rw[hb];by_cases h3:t<N
  ·rw[if_pos h3];by_cases h4:t∈L
   ·rw[if_pos h4];exact h t h4
   ·rw[if_neg h4];exact .bad _
  ·rw[if_neg h3];have:a.tmps.getD t If=If:=by
    rw[JG,Array.getElem?_eq_none (by omega)];rfl
   rw[this];exact .tuple .nil
 ·rw[hb,if_pos (h2 t ht),if_pos ht]
theorem Gd {all:Array Oper}{o:Oper}{b b':A}(h:∀t∈o.looksAt all,b.get If t=b'.get If t):∀x∈o.op.operands,b.ev x=b'.ev x:=by
 intro x hx;cases x with
 | tmp t =>
   refine h t ?_;unfold Oper.looksAt;refine Ir.2 (.inl (List.mem_filterMap.2 ⟨.tmp t,by simpa using hx,rfl⟩))
 |_=>rfl
theorem zg {all:Array Oper}{o:Oper}{b b':A}(h:∀t∈o.looksAt all,b.get If t=b'.get If t):cE o.guard all b=cE o.guard all b':=by
 cases hg:o.guard with
 |none=>rfl
 | some jw =>
   obtain⟨j,c⟩:=jw;show isB c (evO ((all.toList[j]?).bind (·.dst)) b)=isB c (evO ((all.toList[j]?).bind (·.dst)) b');cases hd:(all.toList[j]?).bind (·.dst)with
   |none=>rfl
   | some d =>
     show isB c (b.get If d)=isB c (b'.get If d);rw[h d];unfold Oper.looksAt;refine Ir.2 (.inr ?_);rw[hg];have hd:(all[j]?).bind (·.dst)=G5 d:=by simpa using hd
     simp[hd]
theorem mb {call:bU}{b:A}{h:H}{o:Oper}{r:VH}(e:opT o.op P call b h o=.ok r):∀cs d,o.op≠ .select cs d:=by
 intro cs d ho;rw[ho]at e;have e:bM P call b h o=.ok r:=e;have:=(aT e).1;rw[ho]at this;exact absurd this (by simp[Lex.cls])
end Go.Ev
namespace Go.Ev
set_option linter.unusedSectionVars false
variable {P:Ia} {call:bU} {n:Nat} {all:Array Oper} {p0:Rho} {a0:A} {h0:H} {c0:Act} {w0:World} {b:A} {g:H} {ds:Nat->DS} {us:Nat->Value}
theorem fN(k m:Nat):(H.mk .nil k).get m=none:=T.get_nil _ _
def GD(all:Array Oper)(ds:Nat->DS)(D:Nat->Prop)(t m:Nat)(bl:Blk):Prop:=
 (ds t).h.get m=G5 bl\/∃i,t<=i/\i<(aW all).length/\D i/\cR ds i/\m=(ds i).h.n/\(ds (i+1)).h.get m=G5 bl
structure Jn(n:Nat)(all:Array Oper)(p0:Rho)(a0:A)(h0:H)(c0:Act)(w0:World)(ds:Nat->DS)(us:Nat->Value)(D:Nat->Prop)(rho:Rho)(t:Nat)(a:Act)(w:World):Prop where
 dn:∀i,D i->i<(aW all).length
 shut:Shut (aW all) D
 lt:t<=(aW all).length
 lev:t=0\/∃c,t=c+1/\dl ds c/\D c
 lvl:∀m bl,(ds t).h.get m=G5 bl->m<(ds t).h.n
 acts:∀i,i<(aW all).length->dl ds i->(D i<->i<t)
 gr:GR rho (ds t).h.n (GD all ds D t) w.heap
 names:∀m x,rho m=G5 x->m<(ds t).h.n\/∃i,t<=i/\i<(aW all).length/\D i/\cR ds i/\m=(ds i).h.n
 put:∀i s q,(aW all)[i]? =G5 s->D i->s.o.dst=G5 q->VR (rho.cut (ds (i+1)).h.n) (a.tmps.getD q If) (us i)
 old:∀q,(∀i s,(aW all)[i]? =G5 s->D i->s.o.dst≠G5 q)->VR (rho.cut h0.n) (a.tmps.getD q If) (a0.get If q)
 keep:∀i,i<h0.n->rho i=p0 i
 os:w.os=w0.os
 tape:w.tape=w0.tape
 output:w.output=w0.output
 size:w0.heap.size<=w.heap.size
 rows:∀b,b<w0.heap.size->Off p0 h0 b->w.heap[b]? =w0.heap[b]? /\BB rho (GD all ds D t) b
 tmps:a.tmps.size=n
 defers:a.defers=c0.defers
section
variable {D:Nat->Prop} {rho:Rho} {t i:Nat} {a:Act} {w:World} {s:ST} (T':Dv P call n all a0 h0 b g ds us) (K':ue n all) (J':Jn n all p0 a0 h0 c0 w0 ds us D rho t a w)
include T' K' J'
theorem oT {j:Nat}{r:ST}(hr:(aW all)[j]? =G5 r)(hd:D j){m:Nat}(h:has r.anc m=G6):D m:=
 rM J'.shut hr (J'.shut j r hr hd) m h
theorem jA {x j m:Nat}{r:ST}(hr:(aW all)[j]? =G5 r)(hd:∀m,has r.anc m=G6->D m)(h:sub x r.anc=G6)(k:x.testBit m=G6):D m:=
 hd m (by rw[rJ];exact Fj h k)
theorem BC(hi:i<(aW all).length)(hD: ¬D i)(h:cR ds i\/dl ds i):t<=i:=by
 rcases J'.lev with e|⟨c,rfl,hc,hd⟩
 ·omega
 ·have hcl:=J'.dn c hd;have hne:c≠i:=fun e=>hD (e▸hd)
  rcases IT c i with h'|h'
  ·omega
  ·exfalso;obtain⟨r,hr,_,_⟩:=gz T' hcl;have hda:=fun m=>oT T' K' J' hr hd (m:=m)
   rcases oR T' hr with⟨_,k,_⟩|⟨_,k,_⟩|⟨_,_,_,_,h1,h2,_⟩
   ·exact k hc
   ·exact k hc
   ·rcases h with h|h
    ·exact hD (jA T' K' J' hr hda h1 ((Ec T' (by omega) (by omega)).2 h))
    ·exact hD (jA T' K' J' hr hda h2 ((xy T' (by omega) (by omega)).2 h))
theorem ui(hs:(aW all)[i]? =G5 s)(hD: ¬D i)(hr:∀m∈s.es,D m):∀q∈s.o.looksAt all,VR (rho.cut (ds i).h.n) (a.tmps.getD q If) ((ds i).a.get If q):=by
 intro q hq;have hil:=(I2.1 hs).1;have start:(∀j r,(aW all)[j]? =G5 r->D j->r.o.dst≠G5 q)->(∀j r,j<i->(aW all)[j]? =G5 r->r.o.dst≠G5 q)->VR (rho.cut (ds i).h.n) (a.tmps.getD q If) ((ds i).a.get If q):=fun h1 h2=>by
  rw[Bz T' (by omega) h2];have hz:(ds 0).h.n=h0.n:=by rw[T'.zero];rfl
  exact(J'.old q h1).mono (gh (Le.refl _) (by rw[<-hz];exact cJ T' (by omega) (by omega)))
 by_cases hw:∃(j:Nat) (r:ST),(aW all)[j]? =G5 r/\r.o.dst=G5 q
 ·obtain⟨j,r,hj,hd⟩:=hw;have hjl:=(I2.1 hj).1;have hone:∀(k:Nat) (r':ST),(aW all)[k]? =G5 r'->r'.o.dst=G5 q->k=j:=fun k r' hk hk2=>K'.one k j r' r q hk hj hk2 hd
  rcases K'.look i j s r q hs hj hd hq with⟨h1,h2⟩|⟨h1,h2⟩|h1
  ·have hdj:D j:=rM J'.shut hs hr j h2;rw[xz T' hj hd (K'.dst j r q hj hd) hone h1 (by omega)];exact(J'.put j r q hj hdj hd).mono (gh (Le.refl _) (cJ T' (by omega) (by omega)))
  ·have hdj: ¬D j:=fun k=>hD (oT T' K' J' hj k h2)
   exact start (fun k r' hk hdk e=>hdj (hone k r' hk e▸hdk)) (fun k r' hk hk2 e=>by have:=hone k r' hk2 e;omega)
  ·subst h1;exact start (fun k r' hk hdk e=>hD (hone k r' hk e▸hdk)) (fun k r' hk hk2 e=>by have:=hone k r' hk2 e;omega)
 ·exact start (fun j r hj _ e=>hw ⟨j,r,hj,e⟩) (fun j r _ hj e=>hw ⟨j,r,hj,e⟩)
theorem rP(hti:t<=i)(hi:i<=(aW all).length)(hx:∀j,t<=j->j<i->¬dl ds j)(hn:∀j,t<=j->j<i->cR ds j->D j):(∀m bl,(ds i).h.get m=G5 bl->GD all ds D t m bl)/\HR (rho.cut (ds i).h.n) (ds i).h w.heap:=by
 have mt:(ds t).h.n<=(ds i).h.n:=cJ T' hti hi;have key:∀m bl,(ds i).h.get m=G5 bl->GD all ds D t m bl/\m<(ds i).h.n:=fun m bl e=>by
  rcases Fm T' hti hi hx m bl e with h|⟨j,h1,h2,h3,h4,h5⟩
  ·exact⟨.inl h,Ig (J'.lvl m bl h) mt⟩
  ·refine⟨.inr ⟨j,h1,by omega,hn j h1 h2 h3,h3,h4,h5⟩,?_⟩;have:=rO T' (by omega) h3;have:=cJ T' (show j+1<=i by omega) hi;omega
 refine⟨fun m bl e=>(key m bl e).1,fun m hm=>fA hm,fun m bl e=>?_,fun x y bx bz u v ex ey eu ev hr=>?_⟩
 ·obtain⟨k1,k2⟩:=key m bl e;obtain⟨x,o,e1,e2,e3⟩:=J'.gr.live m bl k1;exact⟨x,o,by rw[b9 k2];exact e1,e2,e3.mono (gh (Le.refl _) (by omega))⟩
 ·obtain⟨k1,k2⟩:=key x bx ex;obtain⟨l1,l2⟩:=key y bz ey;rw[b9 k2]at eu;rw[b9 l2]at ev;exact J'.gr.inj x y bx bz u v k1 l1 eu ev hr
theorem Jn.next(hs:(aW all)[i]? =G5 s)(hD: ¬D i)(hr:∀m∈s.es,D m){rho':Rho}{t':Nat}{w':World}{v:Value}(le:Le rho rho')(lo:∀m,m<h0.n->rho' m=rho m)
 (ht:t'=t/\ ¬dl ds i\/t'=i+1/\dl ds i/\(∀j,j<(aW all).length->dl ds j->(D j<->j<i)))
 (lvl:∀m bl,(ds t').h.get m=G5 bl->m<(ds t').h.n) (gr:GR rho' (ds t').h.n (GD all ds (fun j=>D j\/j=i) t') w'.heap)
 (names:∀m x,rho' m=G5 x->m<(ds t').h.n\/∃j,t'<=j/\j<(aW all).length/\(D j\/j=i)/\cR ds j/\m=(ds j).h.n)
 (hv:VR (rho'.cut (ds (i+1)).h.n) v (us i)) (os:w'.os=w.os) (tape:w'.tape=w.tape) (output:w'.output=w.output) (size:w.heap.size<=w'.heap.size)
 (rows:∀b,b<w.heap.size->BB rho (GD all ds D t) b->w'.heap[b]? =w.heap[b]? /\BB rho' (GD all ds (fun j=>D j\/j=i) t') b):
 Jn n all p0 a0 h0 c0 w0 ds us (fun j=>D j\/j=i) rho' t' (a.put s.o.dst v) w':=by
 have hil:=(I2.1 hs).1;refine⟨fun j hj=>hj.elim (J'.dn j) (fun e=>e▸hil),fun j o ho hj m hm=>?_,?_,?_,lvl,fun j hj ha=>?_,gr,names,fun j r q hj hdj hq=>?_,fun q hq=>?_,fun j hj=>(lo j hj).trans (J'.keep j hj),os.trans J'.os,tape.trans J'.tape,output.trans J'.output,G9 J'.size size,fun b hb ho=>?_,?_,?_⟩
 ·rcases hj with hj|rfl
  ·exact .inl (J'.shut j o ho hj m hm)
  ·rw[hs]at ho;cases ho;exact .inl (hr m hm)
 ·rcases ht with⟨rfl,_⟩|⟨rfl,_⟩
  ·exact J'.lt
  ·omega
 ·rcases ht with⟨rfl,_⟩|⟨rfl,h,_⟩
  ·exact J'.lev.imp id fun⟨c,h1,h2,h3⟩=>⟨c,h1,h2,.inl h3⟩
  ·exact .inr ⟨i,rfl,h,.inr rfl⟩
 ·rcases ht with⟨rfl,hn⟩|⟨rfl,h,h2⟩
  ·rw[<-J'.acts j hj ha];exact⟨fun h=>h.elim id fun e=>absurd (e▸ha) hn,.inl⟩
  ·rw[h2 j hj ha];omega
 ·have hone:j≠i->s.o.dst≠G5 q:=fun hne e=>hne (K'.one j i r s q hj hs hq e)
  by_cases hji:j=i
  ·subst hji;rw[hs]at hj;cases hj;have hqn:=K'.dst j s q hs hq;have:(a.put s.o.dst v).tmps.getD q If=v:=by
    rw[hq];show(a.tmps.setIfInBounds q v).getD q If=v;simp[Array.getD,J'.tmps,hqn]
   rw[this];exact hv
  ·have hdj:D j:=hdj.resolve_right hji;have:(a.put s.o.dst v).tmps.getD q If=a.tmps.getD q If:=by
    cases hd:s.o.dst with
    |none=>rfl
    | some y =>
      have hne:y≠q:=fun e=>hone hji (e▸hd)
      show(a.tmps.setIfInBounds y v).getD q If=_;simp only[JG,JC hne]
   rw[this];exact(J'.put j r q hj hdj hq).mono (gh le (G8 _))
 ·have hne:s.o.dst≠G5 q:=hq i s hs (.inr rfl);have:(a.put s.o.dst v).tmps.getD q If=a.tmps.getD q If:=by
   cases hd:s.o.dst with
   |none=>rfl
   | some y =>
     have hne:y≠q:=fun e=>hne (e▸hd)
     show(a.tmps.setIfInBounds y v).getD q If=_;simp only[JG,JC hne]
  rw[this];exact(J'.old q fun j r hj hdj=>hq j r hj (.inl hdj)).mono (gh le (G8 _))
 ·obtain⟨h1,h2⟩:=J'.rows b hb ho;obtain⟨h3,h4⟩:=rows b (Ig hb J'.size) h2;exact⟨h3.trans h1,h4⟩
 ·cases s.o.dst with
  |none=>exact J'.tmps
  |some y=>show(a.tmps.setIfInBounds y v).size=n;rw[Array.size_setIfInBounds];exact J'.tmps
 ·cases s.o.dst with
  |none=>exact J'.defers
  |some y=>exact J'.defers
end
end Go.Ev
namespace Go.Ev
set_option linter.unusedSectionVars false
variable {P:Ia} {call:bU} {n:Nat} {all:Array Oper} {p0:Rho} {a0:A} {h0:H} {c0:Act} {w0:World} {b:A} {g:H} {ds:Nat->DS} {us:Nat->Value}
section
variable {D:Nat->Prop} {rho:Rho} {t i:Nat} {a:Act} {w:World} {s:ST} (T':Dv P call n all a0 h0 b g ds us) (K':ue n all) (J':Jn n all p0 a0 h0 c0 w0 ds us D rho t a w) (hs:(aW all)[i]? =G5 s) (hD: ¬D i) (hr:∀m∈s.es,D m)
include T'
theorem Ge:∀{i:Nat},i<=(aW all).length->(ds i).hk.n<=(ds i).h.n:=by
 intro i
 induction i with
 |zero=>intro _;rw[T'.zero];exact G8 _
 | succ i ih =>
   intro hi;obtain⟨s,hs,_,_⟩:=gz T' (i:=i) (by omega);have ih:=ih (by omega);have hm:=rN T' (i:=i) (by omega);rcases oR T' hs with⟨_,_,_,h⟩|⟨_,_,_,h⟩|⟨_,_,h,_⟩
   ·rw[h];omega
   ·rw[h];omega
   ·rw[h];exact G8 _
theorem ds0:(ds 0).h=h0/\(ds 0).a=a0/\(ds 0).hk=h0:=by rw[T'.zero];exact⟨rfl,rfl,rfl⟩
include K' J' hs hD hr
theorem jB(hn: ¬cR ds i):∀m bl,GD all ds (fun j=>D j\/j=i) t m bl->GD all ds D t m bl:=by
 intro m bl h;rcases h with h|⟨j,h1,h2,h3,h4,h5⟩
 ·exact .inl h
 ·refine .inr ⟨j,h1,h2,h3.resolve_right (fun e=>hn (e▸h4)),h4,h5⟩
theorem jf {t':Nat}{m:Nat}(h:m<(ds t).h.n\/∃i,t<=i/\i<(aW all).length/\D i/\cR ds i/\m=(ds i).h.n)(e:t'=t):m<(ds t').h.n\/∃j,t'<=j/\j<(aW all).length/\(D j\/j=i)/\cR ds j/\m=(ds j).h.n:=by
 subst e;rcases h with h|⟨j,h1,h2,h3,h4⟩
 ·exact .inl h
 ·exact .inr ⟨j,h1,h2,.inl h3,h4⟩
theorem rQ(hti:t<=i){m:Nat}(h1:(ds i).h.n<=m)(h2:m<(ds (i+1)).h.n):rho m=none:=by
 have hil:=(I2.1 hs).1;cases e:rho m with
 |none=>rfl
 | some x =>
   exfalso;rcases J'.names m x e with h|⟨j,k1,k2,k3,k4,k5⟩
   ·have:=cJ T' hti (by omega);omega
   ·have hne:j≠i:=fun e=>hD (e▸k3)
    have hj:=rO T' k2 k4;rcases IT j i with h|h
    ·have:=cJ T' (show j+1<=i by omega) (by omega);omega
    ·have:=cJ T' (show i+1<=j by omega) (by omega);omega
theorem oU:∃b':A,AR (rho.cut (ds i).h.n) a b'/\(∀x∈s.o.op.operands,b'.ev x=(ds i).a.ev x)/\cE s.o.guard all b'=cE s.o.guard all (ds i).a:=by
 obtain⟨b',h1,h2⟩:=vS (s.o.looksAt all) (fun q=>(ds i).a.get If q) (ui T' K' J' hs hD hr);exact⟨b',h1,Gd h2,zg h2⟩
omit T' K' J' hs hD hr in
theorem rS {b':A}{p:Rho}{hh g':H}{u:Value}{Q:Act->World->Prop}(C:dY P call)(A':AR p a b')(H':HR p hh w.heap)(hw:Region.wanted s.o (yielded all a.tmps)=G6)(e:opT s.o.op P call b' hh s.o=.ok (.mk u g'))
 (K:∀q v w',Ext p hh w q g' w'->HR q g' w'.heap->VR q v u->Q (a.put s.o.dst v) w'):wpList P all (Exit.then Q (fun _ _ _=>False)) [s.o] a w:=by
 unfold wpList;rw[hw,if_pos rfl];exact .inl (D9 C A' H' e K)
theorem zh(hn: ¬cR ds i)(ha: ¬dl ds i)(hq:(ds (i+1)).h=(ds i).h)(w':cE s.o.guard all (ds i).a=.ok G7)(hu:us i=If):
 wpList P all (Exit.then (fun a' w'=>∃rho t,Jn n all p0 a0 h0 c0 w0 ds us (fun j=>D j\/j=i) rho t a' w') (fun _ _ _=>False)) [s.o] a w:=by
 obtain⟨b',h1,_,h3⟩:=oU T' K' J' hs hD hr;unfold wpList;rw[dR h1 (h3.trans w'),if_neg (by simp)];refine⟨rho,t,J'.next T' K' hs hD hr (Le.refl _) (fun _ _=>rfl) (.inl ⟨rfl,ha⟩) J'.lvl ⟨fun m bl h=>J'.gr.live m bl (jB T' K' J' hs hD hr hn m bl h),fun x y bx bz u v ex ey=>J'.gr.inj x y bx bz u v (jB T' K' J' hs hD hr hn _ _ ex) (jB T' K' J' hs hD hr hn _ _ ey)⟩
  (fun m x e=>jf T' K' J' hs hD hr (J'.names m x e) rfl) (by rw[hu];exact .tuple .nil) rfl rfl rfl (G8 _) (fun b hb h=>⟨rfl,fun m c x hm e=>h m c x (jB T' K' J' hs hD hr hn m c hm) e⟩)⟩
theorem uj:HR (rho.cut (H.mk .nil (ds i).h.n).n) (H.mk .nil (ds i).h.n) w.heap:=
 ⟨fun m hm=>fA hm,fun m bl e=>(by rw[fN]at e;cases e),fun x y bx bz u v ex=>(by rw[fN]at ex;cases ex)⟩
theorem zj(C:dY P call)(hn: ¬cR ds i)(ha: ¬dl ds i)(hq:(ds (i+1)).h=(ds i).h)(w':cE s.o.guard all (ds i).a=.ok G6){g':H}(e:opT s.o.op P call (ds i).a (.mk .nil (ds i).h.n) s.o=.ok (.mk (us i) g'))(hg:g'.n=(ds i).h.n):
 wpList P all (Exit.then (fun a' w'=>∃rho t,Jn n all p0 a0 h0 c0 w0 ds us (fun j=>D j\/j=i) rho t a' w') (fun _ _ _=>False)) [s.o] a w:=by
 obtain⟨b',h1,h2,h3⟩:=oU T' K' J' hs hD hr;rw[<-ma (mb e) h2]at e;refine rS C h1 (uj T' K' J' hs hD hr) (dR h1 (h3.trans w')) e fun q v w1 E H1 V1=>?_
 obtain⟨rho',le,lo,hi,cut,gr,rows⟩:=J'.gr.run (fun m bl e=>by rw[fN]at e;cases e) E H1 (fun m k1 k2=>by rw[hg]at k2;exact absurd k2 (Nat.not_lt.2 k1)) (G':=GD all ds (fun j=>D j\/j=i) t) (G8 _)
  (fun m bl h=>.inr ⟨jB T' K' J' hs hD hr hn m bl h,fun c=>by rw[fN];exact fun e=>(by cases e),by rw[hg];exact IT m _⟩)
 have hil:=(I2.1 hs).1;have z0:=cJ T' (Nat.zero_le i) (by omega);rw[(ds0 T').1]at z0;refine⟨rho',t,J'.next T' K' hs hD hr le (fun m hm=>lo m (Ig hm z0)) (.inl ⟨rfl,ha⟩) J'.lvl gr (fun m x e=>?_) ?_ E.os E.tape E.output E.size rows⟩
 ·refine jf T' K' J' hs hD hr (J'.names m x ?_) rfl;rcases IT m (ds i).h.n with k|k
  ·rw[<-lo m k];exact e
  ·rw[<-hi m (by rw[hg];exact k)];exact e
 ·rw[hq,<-hg,cut];exact V1
theorem BD(C:dY P call)(hn:cR ds i)(ha: ¬dl ds i){bl:Blk}(hq:(ds (i+1)).h=(ds i).h.new bl)(w':cE s.o.guard all (ds i).a=.ok G6){g':H}(e:opT s.o.op P call (ds i).a (.mk .nil (ds i).h.n) s.o=.ok (.mk (us i) g'))(hg:g'.n=(ds i).h.n+1)(hb:g'.get (ds i).h.n=G5 bl):
 wpList P all (Exit.then (fun a' w'=>∃rho t,Jn n all p0 a0 h0 c0 w0 ds us (fun j=>D j\/j=i) rho t a' w') (fun _ _ _=>False)) [s.o] a w:=by
 obtain⟨b',h1,h2,h3⟩:=oU T' K' J' hs hD hr;rw[<-ma (mb e) h2]at e;have hil:=(I2.1 hs).1;have hti:=BC T' K' J' hil hD (.inl hn);have hnu:=rO T' hil hn;refine rS C h1 (uj T' K' J' hs hD hr) (dR h1 (h3.trans w')) e fun q v w1 E H1 V1=>?_
 have hG:∀m b,GD all ds (fun j=>D j\/j=i) t m b->(g'.get m=G5 b/\g'.n<=max (ds t).h.n (m+1))\/(GD all ds D t m b/\(∀c,(H.mk .nil (ds i).h.n).get m≠G5 c)/\(m<(H.mk .nil (ds i).h.n).n\/g'.n<=m)):=by
  intro m bx h;have nil:∀c,(H.mk .nil (ds i).h.n).get m≠G5 c:=fun c=>by rw[fN];exact fun e=>(by cases e)
  have old:GD all ds D t m bx->(m<(H.mk .nil (ds i).h.n).n\/g'.n<=m):=fun h=>by
   obtain⟨x,_,e1,_⟩:=J'.gr.live m bx h;rw[hg];show m<(ds i).h.n\/_;rcases IT m (ds i).h.n with k|k
   ·exact .inl k
   ·refine .inr (Nat.lt_of_le_of_ne k fun k2=>?_);rw[rQ T' K' J' hs hD hr hti k (by omega)]at e1;cases e1
  rcases h with h|⟨j,k1,k2,k3,k4,k5,k6⟩
  ·exact .inr ⟨.inl h,nil,old (.inl h)⟩
  ·rcases k3 with k3|rfl
   ·exact .inr ⟨.inr ⟨j,k1,k2,k3,k4,k5,k6⟩,nil,old (.inr ⟨j,k1,k2,k3,k4,k5,k6⟩)⟩
   ·rw[hq,H.get_new,if_pos k5.symm]at k6;cases k6;exact .inl ⟨by rw[k5];exact hb,by rw[hg,k5];omega⟩
 obtain⟨rho',le,lo,hi,cut,gr,rows⟩:=J'.gr.run (hh:=.mk .nil (ds i).h.n) (fun m bl e=>by rw[fN]at e;cases e) E H1 (fun m k1 k2=>rQ T' K' J' hs hD hr hti k1 (by rw[hnu,<-hg];exact k2)) (G8 _) hG;have z0:=cJ T' (Nat.zero_le i) (by omega);rw[(ds0 T').1]at z0;refine⟨rho',t,J'.next T' K' hs hD hr le (fun m hm=>lo m (Ig hm z0)) (.inl ⟨rfl,ha⟩) J'.lvl gr (fun m x e=>?_) ?_ E.os E.tape E.output E.size rows⟩
 ·rcases IT m (ds i).h.n with k|k
  ·exact jf T' K' J' hs hD hr (J'.names m x (by rw[<-lo m k];exact e)) rfl
  ·rcases IT m g'.n with k2|k2
   ·exact .inr ⟨i,hti,hil,.inr rfl,hn,by omega⟩
   ·exact jf T' K' J' hs hD hr (J'.names m x (by rw[<-hi m k2];exact e)) rfl
 ·rw[hnu,<-hg,cut];exact V1
end
end Go.Ev
