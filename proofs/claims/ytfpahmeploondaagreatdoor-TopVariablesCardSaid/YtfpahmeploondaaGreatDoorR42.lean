/- Walks and plain facts for the law on type variables, for all values and types that the heap holds (texts Ep Eq Eqa Er). -/
import Derived.Lib.UnsafeStr
import Derived.Test.YtfpahmeploondaaGreatDoorR03
import Derived.Test.YtfpahmeploondaaGreatDoorR41
set_option linter.unusedVariables false
set_option linter.unusedSimpArgs false
set_option maxHeartbeats 64000000
open Option renaming none -> G0, some -> G5
open Bool renaming true -> G6, false -> G7
open Go renaming run_underlying -> IM, MapEntry -> IJ, Program -> Ia, Operand -> Ie
open Go.Sem renaming run_bind -> It
open Nat renaming zero_add -> IV, beq -> Ib
open Option renaming rec -> Iv
open Go.Next renaming value -> IU
namespace Go.Ev
set_option linter.unusedSectionVars false
variable {α β γ:Type} {p q:Rho} {P:Ia}
theorem oO {w:World}{r:Nat}{l:List IJ}{c:Nat}(h:w.heap[r]? =G5 (.map ⟨l⟩ c))(o:Obj):(setObj r o).run P w=.ok () {w with heap:=w.heap.setIfInBounds r o}:=by
 simp[setObj,Sem.run,h]
theorem rH {d:TypeDesc}{k:Value}(hf:ru (G5 d) k=G6):Instr.sameBits 10000 k k=true:=by
 show Instr.sameBits (9999+1) k k=G6;generalize 9999=n;cases d<;>cases k<;>cases hf<;>simp[Instr.sameBits,ql]
section
variable {call:bU} {a:Act} {b:A} {h g:H} {w:World} {o:Oper} {u:Value} (A':AR p a b) (H':HR p h w.heap)
include A' H'
theorem oP {t:TypeId}{m k v:Ie}(e:fL t m k v P call b h o=.ok (.mk u g)):Fin p h w ((do Instr.mapUpdate t (a.eval m) (a.eval k) (a.eval v);pure .skip:Sem Next).run P w) u g:=by
 obtain⟨e0,e⟩:=aT e;obtain⟨mo,e1,e⟩:=R.b_ok e;obtain⟨i,e2,e⟩:=R.b_ok e;obtain⟨mr,e3,e⟩:=R.b_ok e;obtain⟨r,e4,e⟩:=R.b_ok e;obtain⟨rfl,rfl⟩:=bP e;obtain⟨kt,et,d,hu,hd,hf⟩:=xn e0;have vk:=A'.eval k;have hfl:eR (b.ev k)=true:=by cases hb:b.ev k<;>rw[hb]at hf<;>first|rfl|(cases d<;>cases hf)
 have hk:a.eval k=b.ev k:=vk.same hfl;have vv:=A'.eval v;have vm:=A'.eval m;rw[oI (bF e1),bF e2]at vm;obtain⟨rb,l,k1,k2,k3⟩:=H'.mapR e3;generalize a.eval m=mv at*
 cases vm with|map hp=>
 rw[k1]at hp;cases hp;have hck:=li (P:=P) hd hf G7 w;have hg:=gg (P:=P) k2;have hfs:=oL (p:=p) hf 0 k3 e4;rw[hk];cases r with
 | none =>
   have hfr:=oM hd hfs w;have hso:=oO (P:=P) k2 (.map ⟨l++[⟨b.ev k,a.eval v,mr.c⟩]⟩ (mr.c+1));have hpush:(⟨l⟩:Array IJ).push ⟨b.ev k,a.eval v,mr.c⟩=⟨l++[⟨b.ev k,a.eval v,mr.c⟩]⟩:=by apply Array.ext';simp
   have hup:upd h i (b.ev k) (b.ev v) mr G0=h.put i (.map (mr.es++[⟨b.ev k,b.ev v,mr.c⟩]) (mr.c+1)):=rfl;have hBR:BR p rb (.map (mr.es++[⟨b.ev k,b.ev v,mr.c⟩]) (mr.c+1)) (.map ⟨l++[⟨b.ev k,a.eval v,mr.c⟩]⟩ (mr.c+1)):=⟨_,rfl,k3.snoc ⟨.of_flat _ hfl,vv,rfl⟩⟩
   rw[hup];refine⟨p,_,Go.undef,.inr ⟨?_,rfl⟩,Ext.set H' (lg e3) k1 _,HR.put H' (lg e3) k1 hBR,.tuple .nil⟩;simp[Instr.mapUpdate,IM hu,hg,hck,hfr,hpush,hso]
 | some mm =>
   obtain⟨j,e6,t1,t2,t3,t4,t5⟩:=hfs;have hfr:=oM hd t1 w;rw[IV]at hfr;have hm:=t5 _ _ vv;have hmod:(⟨l⟩:Array IJ).modify j (fun e=>{e with key:=b.ev k,val:=a.eval v})=⟨l.modify j fun e=>{e with key:=b.ev k,val:=a.eval v}⟩:=by
    apply Array.ext';simp
   have hso:=oO (P:=P) k2 (.map ⟨l.modify j fun e=>{e with key:=b.ev k,val:=a.eval v}⟩ mr.c);have hold:(((⟨l⟩:Array IJ)[j]?).map (·.key)).getD (b.ev k)=b.ev k:=by
    have:(⟨l⟩:Array IJ)[j]? =G5 e6:=by simpa using t2
    rw[this];exact t3
   have hks:(Instr.keyThatStays (b.ev k) (b.ev k)).run P w=.ok (b.ev k) w:=by
    simp[Instr.keyThatStays,rH hf]
   have hup:upd h i (b.ev k) (b.ev v) mr (G5 mm)=h.put i (.map (ow (b.ev k) (b.ev v) mr.es) mr.c):=rfl;have hBR:BR p rb (.map (ow (b.ev k) (b.ev v) mr.es) mr.c) (.map ⟨l.modify j fun e=>{e with key:=b.ev k,val:=a.eval v}⟩ mr.c):=⟨_,rfl,hm⟩
   rw[hup];refine⟨p,_,Go.undef,.inr ⟨?_,rfl⟩,Ext.set H' (lg e3) k1 _,HR.put H' (lg e3) k1 hBR,.tuple .nil⟩;simp only[Instr.mapUpdate,It,IM hu,Result.andThen_ok,hg,hck,hfr,hold,hks,hmod,hso];rfl
end
end Go.Ev
namespace Go.Ev
set_option linter.unusedSectionVars false
variable {α β γ:Type} {p q:Rho} {P:Ia}
section
variable {call:bU} {a:Act} {b:A} {h g:H} {w:World} {o:Oper} {u:Value} (A':AR p a b) (H':HR p h w.heap)
include A' H'
theorem tT {l:List IJ}{x:R VH}{y:VH}(e:AV l x=.ok y):l=[]/\x=.ok y:=by
 cases l with
 |nil=>exact⟨rfl,e⟩
 |cons f r=>cases e
theorem qm {v:Value}{m:Option Nat}{mr:lQ}(hv:VR p v (.map m))(e:De h m=.ok mr)(hn:mr.es=[]):v=.map G0\/∃r c,v=.map (G5 r)/\w.heap[r]? =G5 (.map ⟨[]⟩ c):=by
 cases m with
 |none=>exact .inl (hv.same rfl)
 | some i =>
   obtain⟨rb,l,k1,k2,k3⟩:=H'.mapR (show h.mapR i=.ok mr from e);cases hv with|map hp=>
   rw[k1]at hp;cases hp;rw[hn]at k3;cases k3;exact .inr ⟨_,_,rfl,k2⟩
theorem yX {t:TypeId}{x:Ie}(e:oG t x P call b h o=.ok (.mk u g)):Fin p h w ((do pure (IU (<-Instr.range t (a.eval x))):Sem Next).run P w) u g:=by
 obtain⟨el,e1,e⟩:=R.b_ok e;obtain⟨m,e2,e⟩:=R.b_ok e;obtain⟨mr,e3,e⟩:=R.b_ok e;obtain⟨e4,e⟩:=tT A' H' e;obtain⟨rfl,rfl⟩:=bP e;obtain⟨kt,hu⟩:=j9 (bF e1);have vx:=A'.eval x;rw[oI (bF e2)]at vx;have key:∃m' s tt,(Instr.range t (a.eval x)).run P w=.ok (.pointer (G5 ⟨w.heap.size,0,G0⟩)) {w with heap:=w.heap.push (.mapIter m' s #[] tt)}/\VR p (.map m') (.map m):=by
  rcases qm A' H' vx e3 e4 with hv|⟨r,c,hv,hr⟩
  ·refine⟨G0,0,0,?_,by rw[hv]at vx;exact vx⟩;simp[Instr.range,IM hu,hv]
  ·refine⟨G5 r,c,c,?_,by rw[hv]at vx;exact vx⟩;have hg:=gg (P:=P) hr;simp[Instr.range,IM hu,hv,hg]
 obtain⟨m',s,tt,k1,k2⟩:=key;obtain⟨n1,n2⟩:=xk H' (bl:=.iter m) (ob:=.mapIter m' s #[] tt) ⟨m',s,tt,rfl,k2.mono (j7 _ (H'.fresh _ (Nat.le_refl _))),rfl⟩;exact mR k1 n1 n2 (VR.ptr (off:=0) (eS p h.n ⟨w.heap.size,0,0⟩))
theorem Bh {x:Ie}{str:Bool}{ty:TypeId}(e:tH x str P call b h o=.ok (.mk u g)):Fin p h w ((do pure (IU (<-Instr.next (a.eval x) str ty)):Sem Next).run P w) u g:=by
 obtain⟨ad,e1,e⟩:=R.b_ok e;obtain⟨i,off,rfl,e⟩:=mQ e;obtain⟨e2,e⟩:=aT e;have e2:=dQ e2;subst e2;cases str with
 |true=>cases e
 | false =>
   obtain⟨m,e3,e⟩:=R.b_ok (show R.b (GG (Iv (motive:=fun _=>Option (Option Nat)) G0 D4 (h.get i))) _=(.ok (VH.mk u g):R VH)from e);obtain⟨mr,e4,e⟩:=R.b_ok e;obtain⟨e5,e⟩:=tT A' H' e;obtain⟨rfl,rfl⟩:=bP e;have hit:h.get i=G5 (.iter m):=by
    have e3:=bF e3;cases hb:h.get i with
    |none=>rw[hb]at e3;cases e3
    | some bl =>
      rw[hb]at e3;cases bl with
      |iter m0=>cases e3;rfl
      |_=>cases e3
   obtain⟨rb,ob,k1,k2,m',s,tt,rfl,k3,k4⟩:=H'.live i _ hit;have vx:=A'.eval x;rw[ft e1]at vx;generalize a.eval x=v at*
   cases vx with|ptr hp=>
   rw[k1]at hp;cases hp;rw[k4];have hgi:(getObj rb.r).run P w=.ok (.mapIter m' s #[] tt) w:=by simp[getObj,Sem.run,k2]
   refine bK H' (v:=.tuple #[.bool G7]) ?_ (.tuple (.cons (.bool _) .nil));rcases qm A' H' k3 e4 e5 with hv|⟨r,c,hv,hr⟩
   ·cases hv;simp[Instr.next,hgi]
   ·cases hv;have hg:=gg (P:=P) hr;simp[Instr.next,hgi,hg,Question.forced]
end
end Go.Ev
namespace Go.Ev
set_option linter.unusedSectionVars false
variable {α β γ:Type} {p q:Rho} {P:Ia}
theorem Dq {v:Value}{b:UInt8}(h:GP v=.ok b):v=.int .u8 b.toNat:=by
 obtain⟨x,e1,h⟩:=R.b_ok h;obtain⟨e2,h⟩:=aT h;obtain⟨n,e3,h⟩:=R.b_ok h;obtain⟨e4,h⟩:=aT h;cases h;have hn:n<256:=by
  have:Nat.ble (n+1) 256=true:=e4;exact Nat.le_of_ble_eq_true this
 rw[gY e1,mU e2,mT e3];have:n.toUInt8.toNat=n:=by simp;omega
 rw[this]
theorem tU:∀{l:List Value} {bs:List UInt8},lR l=.ok bs->l=bs.map fun b=>.int .u8 b.toNat
 |[],bs,h=>by cases h;rfl
 | v :: l, bs, h => by
   obtain⟨b,e1,h⟩:=R.b_ok (show R.b (GP v) (fun b=>R.b (lR l) fun r=>.ok (b::r))=.ok bs from h);obtain⟨r,e2,h⟩:=R.b_ok h;cases h;rw[Dq e1,tU e2];rfl
section
variable {call:bU} {a:Act} {b:A} {h g:H} {w:World} {o:Oper} {u:Value} (A':AR p a b) (H':HR p h w.heap)
include A' H'
theorem vM {ts:Array TypeId}{ty:TypeId}{x:Ie}(e:iJ x P call b h o=.ok (.mk u g)):Fin p h w ((do pure (IU (<-Builtin.unsafeSliceData_ ts ty #[a.eval x])):Sem Next).run P w) u g:=by
 obtain⟨s,e1,e⟩:=R.b_ok e;obtain⟨e2,rfl⟩:=gx e;have vx:=A'.eval x;rw[fM (bF e1)]at vx;generalize a.eval x=v at*
 cases hs:s.a with
 | none =>
   rw[hs]at e2 vx;cases e2;cases vx with|sl0=>exact bK H' (Lib.run_unsafeSliceData_nil w ts ty _ _) .ptr0
 | some ad =>
   rw[hs]at e2 vx;obtain⟨e3,e2⟩:=aT (show bp (Nat.blt 0 s.cap) (.ok (Addr.rec (motive:=fun _=>Value) (fun i off _=>.pointer (G5 ⟨i,off,G0⟩)) ad))=.ok u from e2);obtain⟨i,off,sp⟩:=ad;cases e2;have h0:0<s.cap:=by
    have:Nat.ble (0+1) s.cap=true:=e3;exact Nat.le_of_ble_eq_true this
   cases vx with
   |sl hp=>exact bK H' (Lib.run_unsafeSliceData_row w ts ty _ _ _ (by omega)) (.ptr hp)
   |slo hp=>exact bK H' (Lib.run_unsafeSliceData_row w ts ty _ _ _ (by omega)) (.ptr hp)
omit A' H' in
theorem xp {ts:Array TypeId}{e:TypeId}(h:GS P ts.toList=G5 e):∃pt it,ts= #[pt,it]/\P.underlying pt=G5 (.pointer e):=by
 obtain⟨l⟩:=ts;unfold GS at h
 match l,h with
 | [t, it], h =>
   have h:(match P.underlying t with|some (.pointer e)=>G5 e|_=>G0)=G5 e:=h;split at h
   ·rename_i e' he;cases h;exact⟨t,it,rfl,he⟩
   ·cases h
 |[],h=>cases h
 |[_],h=>cases h
 |_::_::_::_,h=>cases h
theorem tV {ts:Array TypeId}{ty:TypeId}{x y:Ie}(e:fZ ts.toList x y P call b h o=.ok (.mk u g)):Fin p h w ((do pure (IU (<-Builtin.unsafeString_ ts ty #[a.eval x,a.eval y])):Sem Next).run P w) u g:=by
 obtain⟨m,e1,e⟩:=R.b_ok e;obtain⟨e2,e⟩:=aT e;obtain⟨n,e3,e⟩:=R.b_ok e;have vx:=A'.eval x;have vy:=A'.eval y;rw[gY e1,mU e2,mT e3]at vy;rw[vy.same rfl];have e:(Bool.rec (Ff P h ts.toList (b.ev x) n) (bp (AX (b.ev x)) (R.b (GG (GS P ts.toList)) fun _=>ret (.string ⟨#[]⟩) h)) (Ib n 0):R VH)=.ok (.mk u g):=e;cases hn:Ib n 0 with
 | true =>
   rw[hn]at e;obtain⟨e4,e⟩:=aT (show bp (AX (b.ev x)) (R.b (GG (GS P ts.toList)) fun _=>ret (.string ⟨#[]⟩) h)=.ok (.mk u g)from e);obtain⟨el,e5,e⟩:=R.b_ok e;obtain⟨rfl,rfl⟩:=bP e;obtain⟨pt,it,rfl,_⟩:=xp (bF e5);rw[Nat.beq_eq]at hn;subst hn;generalize b.ev x=v at*
   generalize a.eval x=r at*
   cases v with
   | pointer q =>
     cases vx with
     |ptr0=>exact bK H' (Lib.run_unsafeString_none w pt it ty _) (.string _)
     |ptr hp=>exact bK H' (Lib.run_unsafeString_none w pt it ty _) (.string _)
   |_=>cases e4
 | false =>
   rw[hn]at e;obtain⟨ad,e4,e⟩:=R.b_ok (show Ff P h ts.toList (b.ev x) n=.ok (.mk u g)from e);obtain⟨i,off,rfl,e⟩:=mQ e;obtain⟨e5,e⟩:=aT e;obtain⟨r,e6,e⟩:=R.b_ok e;obtain⟨el,e7,e⟩:=R.b_ok e;obtain⟨e8,e⟩:=aT e;obtain⟨e9,e⟩:=aT e;obtain⟨e10,e⟩:=aT e;obtain⟨l',f1,e⟩:=R.b_ok e;obtain⟨bs,f2,e⟩:=R.b_ok e;obtain⟨rfl,rfl⟩:=bP e;obtain⟨pt,it,rfl,hpt⟩:=xp (bF e7);rw[Nat.beq_eq]at e5 e8 e9;subst e5;have e8:el=r.e:=e8;have h0:n≠0:=fun k=>by rw[k]at hn;cases hn
   have hsm:n<=1048576:=by rw[Nat.ble_eq]at e10;exact e10
   rw[ft e4]at vx;generalize a.eval x=v at*
   cases vx with
   | @ptr _ _ rb hp=>
   obtain⟨x',pre,l,post,f,m3,m4,m5,m6,m7,m8,m9⟩:=H'.row e6;rw[hp]at m3;cases m3;have hpre:pre=[]:=List.length_eq_zero_iff.1 (m5.trans m9);subst hpre;obtain⟨k1,rfl⟩:=lV f1;have hbs:=tU f2;have hvs:=(m6.drop 0).take n;rw[hbs]at hvs;have hfl:∀bs:List UInt8,∀l:List Value,VRs p l (bs.map fun b=>.int .u8 b.toNat)->l=bs.map fun b=>.int .u8 b.toNat:=by
    intro bs
    induction bs with
    |nil=>intro l h;cases h;rfl
    | cons b bs ih =>
      intro l h;cases h with|cons h k=>rw[h.same rfl,ih _ k];rfl
   have hl:=hfl bs _ hvs;have hlen:bs.length=n:=by
    have:=congrArg List.length hbs;rw[List.length_map,List.length_take,List.length_drop]at this;omega
   have hml:=m6.length;have hcell:∀(j:Nat) (c:UInt8),bs[j]? =G5 c->w.cell? ((⟨rb.r,0,G0⟩:Addr).add j)=G5 (.int .u8 c.toNat):=fun j c hj=>by
    rw[rz,IV];have hj':(((l.drop 0).take n))[j]? =G5 (.int .u8 c.toNat):=by rw[hl,List.getElem?_map,hj];rfl
    have hjn:j<n:=by rw[<-hlen];exact(List.getElem?_eq_some_iff.1 hj).1
    rw[List.getElem?_take_of_lt hjn,List.drop_zero]at hj';have:=cell_at (w:=w) m4 (show([]:List Value).length=0 from rfl) hj';rw[IV]at this;exact this
   have hsh:w.shape? rb.r=G5 (el,([]++(l++post)).length):=by
    unfold World.shape?;rw[m4,e8];rfl
   have hrun:=Lib.run_unsafeString_row (P:=P) w pt it ty el hpt e9 rb.r _ hsh bs (fun k=>by rw[k]at hlen;exact h0 hlen.symm) (by rw[List.nil_append,List.length_append,hlen];omega) (by omega) hcell;rw[hlen]at hrun;have hfr:w.freeze ⟨rb.r,0,G0⟩ n={w with heap:=w.heap.setIfInBounds rb.r (.cells ⟨[]++(l++post)⟩ r.e (if f.1==f.2 then(0,0+n)else(min f.1 0,max f.2 (0+n))))}:=by
    unfold World.freeze;rw[if_neg h0];congr 1;apply Array.ext_getElem?;intro k;rw[Array.getElem?_modify];by_cases hk:rb.r=k
    ·subst hk;have hlt:=(Array.getElem?_eq_some_iff.1 m4).1;rw[if_pos rfl,m4];obtain⟨f1,f2⟩:=f;simp[hlt]
    ·rw[if_neg hk,Array.getElem?_setIfInBounds_ne hk]
   rw[hfr]at hrun;have hoff:rb.o+0=0:=by omega
   rw[hoff];exact⟨p,_,_,.inl (by rw[It,hrun];rfl),Ext.set H' (gb e6) hp _,HR.put H' (gb e6) hp ⟨[],l,post,_,rfl,m5,m6,m7,fun k=>(by cases k),m9⟩,.string _⟩
end
end Go.Ev
namespace Go.Ev
set_option linter.unusedSectionVars false
variable {α β γ:Type} {p q:Rho} {P:Ia}
def FY(p:Rho)(h:H)(w:World)(u:Value)(g:H):Ending->World->Prop:=fun e w'=>∃q v,e=.returned v/\Ext p h w q g w'/\HR q g w'.heap/\VR q v u
def OpR(P:Ia)(p:Rho)(h:H)(w:World)(s:Result Next)(u:Value)(g:H):Prop:=Fin p h w s u g\/∃f args,s=.ok (.enter f args) w/\Calls P f args w (FY p h w u g)
def dY(P:Ia)(call:bU):Prop:=∀f us h u g,call f us h=.ok (.mk u g)->∀p w vs,HR p h w.heap->VRs p vs us->OpR P p h w ((callFunc f vs.toArray).run P w) u g
theorem yY {w:World}{f:Value->ByteArray->Sem (ForInStep ByteArray)}(hf:∀(n:Int) r,f (.int .u8 n) r=pure (ForInStep.yield (r.push (UInt8.ofNat n.toNat)))):∀{l c:List Value} {bs:List UInt8} (s:ByteArray),VRs p l c->lR c=.ok bs->
 (forIn l s f).run P w=.ok ⟨s.data++bs.toArray⟩ w:=by
 intro l c
 induction c generalizing l with
 | nil =>
   intro bs s h e;cases h;cases e;simp
 | cons u c ih =>
   intro bs s h e;cases h with|cons hv hr=>
   have e:R.b (GP u) (fun b=>R.b (lR c) fun r=>.ok (b::r))=.ok bs:=e;obtain⟨bt,e1,e⟩:=R.b_ok e;obtain⟨r,e2,e⟩:=R.b_ok e;cases e;obtain⟨x,f1,e1⟩:=R.b_ok e1;obtain⟨f2,e1⟩:=aT e1;obtain⟨n,f3,e1⟩:=R.b_ok e1;obtain⟨_,e1⟩:=aT e1;cases e1;have hu:=gY f1;rw[hu]at hv;have hv:=hv.same rfl;rw[hv,mU f2,mT f3];have:=ih (s.push (UInt8.ofNat n)) hr e2;simp only[List.forIn_cons,hf,Int.toNat_natCast,pure_bind];rw[this];congr 1;have:(s.push (UInt8.ofNat n)).data++r.toArray=s.data++(n.toUInt8::r).toArray:=by
    apply Array.ext';simp[ByteArray.push]
   rw[this]
section
variable {call:bU} {a:Act} {b:A} {h g:H} {w:World} {o:Oper} {u:Value} (A':AR p a b) (H':HR p h w.heap)
include A' H'
theorem Bi(C:dY P call){c:Go.Call}{f:Ie}{ty:TypeId}(hc:c.callee=.value f)(e:tJ f c.args.toList P call b h o=.ok (.mk u g)):OpR P p h w ((do let d<-resolve a.eval c ty;invoke d.target d.args:Sem Next).run P w) u g:=by
 obtain⟨x,e1,e⟩:=R.b_ok e;obtain⟨fid,e2,e⟩:=R.b_ok e;have vf:=A'.eval f;rw[Dg e1]at vf;obtain⟨fn,⟨x1⟩,⟨x2⟩⟩:=x;cases fn with
 | func f0 =>
   cases e2;generalize hv:a.eval f=v at vf;cases vf with| @func _ a1 _ c1 _ k1 k2=>
   have hr:=C fid _ h u g e p w (a1++(c.args.toList.map a.eval++c1)) H' (by
    show VRs p _ (app x1 (app (evl b c.args.toList) x2));rw[lU,lU];exact k1.app ((rD A' H' c.args.toList).app k2))
   have hargs:((⟨a1⟩:Array Value)++c.args.map a.eval)++⟨c1⟩=(a1++(c.args.toList.map a.eval++c1)).toArray:=by apply Array.ext';simp
   have hrun:(do let d<-resolve a.eval c ty;invoke d.target d.args:Sem Next).run P w=(callFunc fid (a1++(c.args.toList.map a.eval++c1)).toArray).run P w:=by
    rw[<-hargs];simp[resolve,hc,hv,Deferred.ofValue,invoke]
   rw[hrun];exact hr
 |_=>cases e2
theorem tW {bi:Builtin}{args:Array Ie}{ts:Array TypeId}{dst:Option Tmp}{ty:TypeId}{pos:String}{af:Array Edge}{gd:Option (Nat×Bool)}(e:ld bi ⟨.builtin bi,args,ts⟩ P call b h ⟨dst,.call ⟨.builtin bi,args,ts⟩,ty,pos,af,gd⟩=.ok (.mk u g)):
 Fin p h w ((execOp a.eval ⟨dst,.call ⟨.builtin bi,args,ts⟩,ty,pos,af,gd⟩).run P w) u g:=by
 have pure_case:bM P call b h ⟨dst,.call ⟨.builtin bi,args,ts⟩,ty,pos,af,gd⟩=.ok (.mk u g)->Fin p h w ((execOp a.eval ⟨dst,.call ⟨.builtin bi,args,ts⟩,ty,pos,af,gd⟩).run P w) u g:=fun e=>ef A' H' (fun _ _ h=>by cases h) e
 cases bi with
 | len =>
   obtain⟨l⟩:=args
   match l,e with
   | [x], e =>
     have hm:Array.map a.eval #[x]= #[a.eval x]:=by simp
     exact Dp (x:=x) (ts:=ts) (ty:=ty) (o:=⟨dst,.call ⟨.builtin .len,#[x],ts⟩,ty,pos,af,gd⟩) A' H' (fun _ _ h=>by cases h) (by rw[Lex.cW,hm];rfl) e
   |[],e=>exact pure_case e
   |_::_::_,e=>exact pure_case e
 | append =>
   obtain⟨l⟩:=args
   match l,e with
   | [s, x], e =>
     rw[Lex.cW];have hm:Array.map a.eval ⟨[s,x]⟩= #[a.eval s,a.eval x]:=by simp
     rw[hm];exact vJ (call:=call) (o:=⟨dst,.call ⟨.builtin .append,⟨[s,x]⟩,ts⟩,ty,pos,af,gd⟩) (ty:=ty) A' H' e
   |[],e=>exact pure_case e
   |[_],e=>exact pure_case e
   |_::_::_::_,e=>exact pure_case e
 | unsafeSliceData =>
   obtain⟨l⟩:=args
   match l,e with
   | [x], e =>
     rw[Lex.cW];have hm:Array.map a.eval ⟨[x]⟩= #[a.eval x]:=by simp
     rw[hm];exact vM (call:=call) (o:=⟨dst,.call ⟨.builtin .unsafeSliceData,⟨[x]⟩,ts⟩,ty,pos,af,gd⟩) A' H' e
   |[],e=>exact pure_case e
   |_::_::_,e=>exact pure_case e
 | unsafeString =>
   obtain⟨l⟩:=args
   match l,e with
   | [x, y], e =>
     rw[Lex.cW];have hm:Array.map a.eval ⟨[x,y]⟩= #[a.eval x,a.eval y]:=by simp
     rw[hm];exact tV (call:=call) (o:=⟨dst,.call ⟨.builtin .unsafeString,⟨[x,y]⟩,ts⟩,ty,pos,af,gd⟩) A' H' e
   |[],e=>exact pure_case e
   |[_],e=>exact pure_case e
   |_::_::_::_,e=>exact pure_case e
 |_=>exact pure_case e
theorem tX {s t:TypeId}{x:Ie}{sl:SL}(hs:fJ (b.ev x)=G5 sl)(e:bp (xg (P.underlying s) (P.underlying t) ((GK P s).bind P.underlying)) (Fc h sl)=.ok (.mk u g)):Fin p h w ((do pure (IU (<-convert s t (a.eval x))):Sem Next).run P w) u g:=by
 obtain⟨e0,e⟩:=aT e;obtain⟨l,e1,e⟩:=R.b_ok e;obtain⟨bs,e2,e⟩:=R.b_ok e;obtain⟨rfl,rfl⟩:=bP e;unfold xg at e0;split at e0
 ·rename_i el h1 h2 h3;have hel:P.underlying el=G5 (.int .u8):=by
   unfold GK at h3;rw[h1]at h3;exact h3
  have vx:=A'.eval x;rw[fM hs]at vx;have e1':ju h 1 sl.len sl.a=.ok l:=e1;have key:∃ad c0 cs,a.eval x=.slice ad sl.len c0/\VRs p cs l/\((ad=G0/\cs=[])\/∃ad',ad=G5 ad'/\(loadCells ad' sl.len).run P w=.ok cs.toArray w):=by
   unfold ju at e1';cases hsa:sl.a with
   | none =>
     rw[hsa]at e1' vx;obtain⟨_,e1'⟩:=aT (show bp (Ib sl.len 0) (.ok [])=.ok l from e1');cases e1';generalize a.eval x=v at*
     cases vx with|sl0=>exact⟨_,_,[],rfl,.nil,.inl ⟨rfl,rfl⟩⟩
   | some ad =>
     obtain⟨i,off,sp⟩:=ad;rw[hsa]at e1' vx;obtain⟨r,f1,f2⟩:=R.b_ok (show R.b (h.row i) (fun r=>cut r.vs off (Nat.mul sl.len 1))=.ok l from e1');generalize a.eval x=v at*
     cases vx with
     | @sl _ _ _ _ rb hp =>
       obtain⟨c,k1,k2,k3⟩:=gZ (P:=P) H' f1 hp f2;have:=k3 w rfl;rw[show Nat.mul sl.len 1=sl.len from Nat.mul_one _]at this;exact⟨_,_,c,rfl,k1,.inr ⟨_,rfl,this⟩⟩
     | @slo _ _ _ _ _ rb hp =>
       obtain⟨c,k1,k2,k3⟩:=gZ (P:=P) H' f1 hp f2;have:=k3 w rfl;rw[show Nat.mul sl.len 1=sl.len from Nat.mul_one _]at this;exact⟨_,_,c,rfl,k1,.inr ⟨_,rfl,this⟩⟩
  obtain⟨ad,c0,cs,hv,k1,k2⟩:=key;rw[hv];refine bK H' (v:=.string ⟨bs.toArray⟩) ?_ (.string _);rcases k2 with⟨rfl,rfl⟩|⟨ad',rfl,hr⟩
  ·cases k1;cases e2;simp[convert,IM h1,IM h2,IM hel,Conv.bytesToString];rfl
  ·simp[convert,IM h1,IM h2,IM hel,Conv.bytesToString,hr];rw[yY (fun n r=>rfl) ByteArray.empty k1 e2];simp[Result.andThen]
 ·cases e0
theorem Bj(C:dY P call)(e:opT o.op P call b h o=.ok (.mk u g)):OpR P p h w ((execOp a.eval o).run P w) u g:=by
 obtain⟨dst,op,ty,pos,af,gd⟩:=o;cases op with
 |move x=>exact .inl (tN (call:=call) (o:=⟨dst,.move x,ty,pos,af,gd⟩) A' H' e)
 |assign x=>exact .inl (tN (call:=call) (o:=⟨dst,.assign x,ty,pos,af,gd⟩) A' H' e)
 |pick c x y=>exact .inl (A9 (call:=call) (o:=⟨dst,.pick c x y,ty,pos,af,gd⟩) A' H' e)
 |alloc t=>exact .inl (yQ (call:=call) (o:=⟨dst,.alloc t,ty,pos,af,gd⟩) A' H' e)
 |box t x=>exact .inl (Dk (call:=call) (o:=⟨dst,.box t x,ty,pos,af,gd⟩) A' H' e)
 |build t ps=>exact .inl (yS (call:=call) (o:=⟨dst,.build t ps,ty,pos,af,gd⟩) A' H' e)
 |buildSlice t n ps=>exact .inl (oK (call:=call) (o:=⟨dst,.buildSlice t n ps,ty,pos,af,gd⟩) A' H' e)
 |insert t m k v=>exact .inl (oP (call:=call) (o:=⟨dst,.insert t m k v,ty,pos,af,gd⟩) A' H' e)
 |load t x=>exact .inl (Ba (call:=call) (o:=⟨dst,.load t x,ty,pos,af,gd⟩) A' H' e)
 |store t x v=>exact .inl (yP (call:=call) (o:=⟨dst,.store t x v,ty,pos,af,gd⟩) A' H' e)
 | nilCheck x =>
   obtain⟨i,hi,hf⟩:=rA (P:=P) (call:=call) (o:=⟨dst,.nilCheck x,ty,pos,af,gd⟩) A' H' e;refine .inl ?_;have:(execOp a.eval ⟨dst,.nilCheck x,ty,pos,af,gd⟩).run P w=.ok (.value (a.eval x)) w:=by simp[execOp,hi]
   rw[this];exact hf
 | binOp bo t x y yt =>
   have e:yO bo t x y P call b h _=.ok (.mk u g):=e;unfold yO at e;cases hf:AZ bo with
   |none=>rw[hf]at e;exact .inl (ef (call:=call) (o:=⟨dst,.binOp bo t x y yt,ty,pos,af,gd⟩) A' H' (fun _ _ h=>by cases h) e)
   |some f=>rw[hf]at e;exact .inl (Dn (call:=call) (o:=⟨dst,.binOp bo t x y yt,ty,pos,af,gd⟩) (yt:=yt) A' H' hf (fun _ _ h=>by cases h) rfl e)
 | unOp uo t x =>
   cases uo with
   |not=>exact .inl (Dl (call:=call) (o:=⟨dst,.unOp .not t x,ty,pos,af,gd⟩) A' H' e)
   |_=>exact .inl (ef (call:=call) A' H' (fun _ _ h=>by cases h) e)
 | convert s t x =>
   have e:(Iv (motive:=fun _=>R VH) (bM P call b h _) (fun l=>bp (xg (P.underlying s) (P.underlying t) ((GK P s).bind P.underlying)) (Fc h l)) (fJ (b.ev x)))=.ok (.mk u g):=e;cases hs:fJ (b.ev x)with
   |none=>rw[hs]at e;exact .inl (ef (call:=call) A' H' (fun _ _ h=>by cases h) e)
   |some s=>rw[hs]at e;exact .inl (tX A' H' hs e)
 |makeFunc f x y=>exact .inl (rE (call:=call) (o:=⟨dst,.makeFunc f x y,ty,pos,af,gd⟩) A' H' e)
 | makeMap t r =>
   cases r with
   |none=>exact .inl (tO (call:=call) (o:=⟨dst,.makeMap t G0,ty,pos,af,gd⟩) A' H' e)
   |some x=>exact .inl (ef (call:=call) (o:=⟨dst,.makeMap t (G5 x),ty,pos,af,gd⟩) A' H' (fun _ _ h=>by cases h) e)
 |makeSlice t l c=>exact .inl (pw (call:=call) (o:=⟨dst,.makeSlice t l c,ty,pos,af,gd⟩) A' H' e)
 | slice t x l hi m =>
   have e:(Iv (motive:=fun _=>R VH) (bM P call b h _) (fun s=>same h (rq P t b l hi m s)) (fJ (b.ev x)))=.ok (.mk u g):=e;cases hs:fJ (b.ev x)with
   |none=>rw[hs]at e;exact .inl (ef (call:=call) (o:=⟨dst,.slice t x l hi m,ty,pos,af,gd⟩) A' H' (fun _ _ h=>by cases h) e)
   |some s=>rw[hs]at e;exact .inl (yT A' H' hs e)
 |fieldAddr t x f=>exact .inl (pq (call:=call) (o:=⟨dst,.fieldAddr t x f,ty,pos,af,gd⟩) A' H' e)
 |field t x f=>exact .inl (yR (call:=call) (o:=⟨dst,.field t x f,ty,pos,af,gd⟩) A' H' e)
 | indexAddr t x i =>
   have e:(Iv (motive:=fun _=>R VH) (vB P t h (b.ev x) (b.ev i)) (fun s=>R.b (GG (GL P t)) fun es=>R.b (fB (b.ev i)) fun k=>same h (Fe es k s)) (fJ (b.ev x)))=.ok (.mk u g):=e;cases hs:fJ (b.ev x)with
   |none=>rw[hs]at e;exact .inl (rC A' H' e)
   |some s=>rw[hs]at e;exact .inl (pr A' H' hs e)
 |lookup t x k ok=>exact .inl (vK (call:=call) (o:=⟨dst,.lookup t x k ok,ty,pos,af,gd⟩) A' H' e)
 |mapUpdate t m k v=>exact .inl (oP (call:=call) (o:=⟨dst,.mapUpdate t m k v,ty,pos,af,gd⟩) A' H' e)
 |range t x=>exact .inl (yX (call:=call) (o:=⟨dst,.range t x,ty,pos,af,gd⟩) A' H' e)
 |next x s=>exact .inl (Bh (call:=call) (o:=⟨dst,.next x s,ty,pos,af,gd⟩) A' H' e)
 |extract x i=>exact .inl (tP (call:=call) (o:=⟨dst,.extract x i,ty,pos,af,gd⟩) A' H' e)
 | call c =>
   obtain⟨cal,args,ts⟩:=c;cases cal with
   |value f=>exact Bi (call:=call) (o:=⟨dst,.call ⟨.value f,args,ts⟩,ty,pos,af,gd⟩) A' H' C rfl e
   |invoke r m=>cases e
   |builtin bi=>exact .inl (tW (call:=call) A' H' e)
 | select cs bl =>
   have e:bM P call b h ⟨dst,.select cs bl,ty,pos,af,gd⟩=.ok (.mk u g):=e;exact absurd (aT e).1 (by simp[Lex.cls])
 |_=>exact .inl (ef (call:=call) A' H' (fun _ _ h=>by cases h) e)
end
end Go.Ev
