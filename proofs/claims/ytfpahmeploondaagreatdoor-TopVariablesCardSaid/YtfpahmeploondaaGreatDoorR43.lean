/- Walks and plain facts for the law on type variables, for all values and types that the heap holds (texts Es Et Eu Ew Ex). -/
import Derived.Test.YtfpahmeploondaaGreatDoorR03
import Derived.Test.YtfpahmeploondaaGreatDoorR42
set_option linter.unusedVariables false
set_option linter.unusedSimpArgs false
set_option maxHeartbeats 64000000
open Option renaming none -> G0, some -> G5
open Bool renaming true -> G6, false -> G7
open Array renaming getD_eq_getD_getElem? -> JG
open List renaming all_eq_true -> Ij, mem_cons -> Ix, mem_map -> IW, rec -> Iy
open Bool renaming and_eq_true -> Ik, or_eq_true -> IE, rec -> Hj
open Go.Region renaming wanted -> ID, binds -> Iw
open Nat renaming zero_add -> IV, beq_eq -> I1, beq -> Ib
open Go.Op renaming operands -> IC
open Option renaming rec -> Iv
open Go renaming undef -> If, Program -> Ia, Operand -> Ie
namespace Go.Ev
set_option linter.unusedSectionVars false
variable {α β γ:Type} {p q:Rho} {P:Ia}
structure AS(p:Rho)(a:Act)(b:A)(n:Nat):Prop where
 ar:AR p a b
 size:a.tmps.size=n
theorem AR.mono(l:Le p q){a:Act}{b:A}(h:AR p a b):AR q a b:=⟨fun t=>(h.tmp t).mono l⟩
theorem AS.mono(l:Le p q){a:Act}{b:A}{n:Nat}(h:AS p a b n):AS q a b n:=⟨h.ar.mono l,h.size⟩
theorem AS.put {a:Act}{b:A}{n:Nat}(h:AS p a b n){v u:Value}(hv:VR p v u)(d:Option Tmp):AS p (a.put d v) (iM d n b u) n:=by
 cases d with
 |none=>exact h
 | some d =>
   have hs:=h.size;refine⟨⟨fun t=>?_⟩,by simp[Act.put,hs]⟩;show VR p ((a.tmps.setIfInBounds d v).getD t If) ((Hj (motive:=fun _=>A) b (b.set If d u) (Nat.blt d n)).get If t);cases hb:Nat.blt d n with
   | true =>
     have hd:=gK hb;show VR p _ ((b.set If d u).get If t);rw[T.get_set];by_cases ht:d=t
     ·subst ht;rw[if_pos rfl];have:(a.tmps.setIfInBounds d v).getD d If=v:=by simp[Array.getD,hs,hd]
      rw[this];exact hv
     ·rw[if_neg ht];have:(a.tmps.setIfInBounds d v).getD t If=a.tmps.getD t If:=by
       simp only[JG,Array.getElem?_setIfInBounds_ne ht]
      rw[this];exact h.ar.tmp t
   | false =>
     have hd: ¬d<n:=fun k=>by
      have:Nat.blt d n=true:=by rw[Nat.blt_eq];exact k
      rw[this]at hb;cases hb
     have:a.tmps.setIfInBounds d v=a.tmps:=by
      unfold Array.setIfInBounds;rw[dif_neg (by rw[hs];exact hd)]
     rw[this];exact h.ar.tmp t
section
variable {call:bU} {a:Act} {b:A} {h g:H} {w:World} {o:Oper} {u:Value}
theorem D9(C:dY P call)(A':AR p a b)(H':HR p h w.heap)(e:opT o.op P call b h o=.ok (.mk u g)){next:Act->World->Prop}{Q:Exit->Act->World->Prop}(K:∀q v w',Ext p h w q g w'->HR q g w'.heap->VR q v u->next (a.put o.dst v) w'):o.wp P a w next Q:=by
 unfold Oper.wp;rcases Bj A' H' C e with⟨q,w',v,hr,h1,h2,h3⟩|⟨f,args,hr,hc⟩
 ·rcases hr with hr|⟨hr,rfl⟩
  ·rw[hr];exact K q v w' h1 h2 h3
  ·rw[hr];exact K q _ w' h1 h2 h3
 ·rw[hr,Oper.upon_enter];refine hc.mono fun e w' ⟨q,v,he,h1,h2,h3⟩=>?_
  subst he;exact K q v w' h1 h2 h3
theorem dR {all:Array Oper}{c:Bool}(A':AR p a b)(e:cE o.guard all b=.ok c):ID o (yielded all a.tmps)=c:=by
 unfold ID;cases hg:o.guard with
 |none=>rw[hg]at e;cases e;rfl
 | some jw =>
   obtain⟨j,want⟩:=jw;rw[hg]at e;have e:isB want (evO ((all.toList[j]?).bind (·.dst)) b)=.ok c:=e;show(yielded all a.tmps j==G5 want)=c;unfold yielded;have hj:all.toList[j]? =all[j]? :=by simp
   rw[hj]at e;cases hd:(all[j]?).bind (·.dst)with
   |none=>rw[hd]at e;cases e;rfl
   | some d =>
     rw[hd]at e;have e:isB want (b.get If d)=.ok c:=e;have hv:=A'.tmp d;rw[JG]at hv;show((match a.tmps[d]?with|some (.bool b)=>G5 b|_=>G0)==G5 want)=c;generalize b.get If d=u at*
     cases ht:a.tmps[d]?with
     | none =>
       rw[ht]at hv;have hv:VR p (.tuple #[]) u:=hv;cases hv with
       |bad=>cases e
       |tuple=>cases e;rfl
     | some v =>
       rw[ht]at hv;have hv:VR p v u:=hv;cases hv with
       |bad=>cases e
       |bool t=>cases e;cases t<;>cases want<;>rfl
       |_=>cases e;rfl
theorem yZ(C:dY P call){n:Nat}{all:Array Oper}{Q:Exit->Act->World->Prop}:∀{l:List Oper} {p:Rho} {a:Act} {b b':A} {h g:H} {w:World},AS p a b n->HR p h w.heap->A0 P call n all l b h=.ok (.mk b' g)->
 (∀q a' w',Ext p h w q g w'->HR q g w'.heap->AS q a' b' n->a'.defers=a.defers->Q .normal a' w')->wpList P all Q l a w:=by
 intro l
 induction l with
 | nil =>
   intro p a b b' h g w A' H' e K;cases e;exact K p a w (Ext.refl p h w) H' A' rfl
 | cons o l ih =>
   intro p a b b' h g w A' H' e K;have e:R.b (cE o.guard all b) (fun c=>Hj (motive:=fun _=>R AH) (A0 P call n all l (iM o.dst n b If) h) (vh (opT o.op P call b h o) fun v h=>A0 P call n all l (iM o.dst n b v) h) c)=.ok (.mk b' g):=e;obtain⟨c,e1,e⟩:=R.b_ok e;have hw:=dR A'.ar e1;unfold wpList;cases c with
   | true =>
     rw[hw,if_pos rfl];obtain⟨v,h1,e2,e3⟩:=A5 (show vh (opT o.op P call b h o) (fun v h=>A0 P call n all l (iM o.dst n b v) h)=.ok (.mk b' g)from e);refine .inl (D9 C A'.ar H' e2 fun q x w' E1 H1 V1=>?_);exact ih ((A'.mono E1.le).put V1 o.dst) H1 e3 fun q2 a2 w2 E2 H2 A2 D2=>K q2 a2 w2 (E1.trans E2) H2 A2 (by rw[D2];cases o.dst<;>rfl)
   | false =>
     rw[hw,if_neg (by simp)];exact ih (A'.put (.tuple .nil) o.dst) H' e fun q2 a2 w2 E2 H2 A2 D2=>K q2 a2 w2 E2 H2 A2 (by rw[D2];cases o.dst<;>rfl)
end
end Go.Ev
namespace Go.Ev
set_option linter.unusedSectionVars false
variable {P:Ia} {call:bU} {b b':A} {h:H}
theorem l8 {l:List Ie}(k:∀x∈l,b.ev x=b'.ev x):evl b l=evl b' l:=by
 induction l with
 |nil=>rfl
 | cons x l ih =>
   show b.ev x::evl b l=b'.ev x::evl b' l;rw[k x (by simp),ih fun y hy=>k y (by simp[hy])]
theorem qn {l:List (Nat×Ie)}(k:∀x∈l,b.ev x.2=b'.ev x.2):evs b l=evs b' l:=by
 induction l with
 |nil=>rfl
 | cons x l ih =>
   show(x.1,b.ev x.2)::evs b l=(x.1,b'.ev x.2)::evs b' l;rw[k x (by simp),ih fun y hy=>k y (by simp[hy])]
theorem tY {l:List Ie}(k:∀x∈l,b.ev x=b'.ev x):oC b l=oC b' l:=by
 induction l with
 |nil=>rfl
 | cons x l ih =>
   show Hj (motive:=fun _=>Bool) G7 (oC b l) (eR (b.ev x))=Hj (motive:=fun _=>Bool) G7 (oC b' l) (eR (b'.ev x));rw[k x (by simp),ih fun y hy=>k y (by simp[hy])]
theorem lj {d:Nat}{o:Option Ie}(k:∀x,o=G5 x->b.ev x=b'.ev x):i8 d b o=i8 d b' o:=by
 cases o with
 |none=>rfl
 |some x=>show fB (b.ev x)=fB (b'.ev x);rw[k x rfl]
theorem tZ {o:Oper}(hs:∀cs d,o.op≠ .select cs d)(k:∀x∈o.op.operands,b.ev x=b'.ev x):bM P call b h o=bM P call b' h o:=by
 unfold bM;rw[Lex.ij o.op k,tY (l:=o.op.operands.toList) (b:=b) (b':=b') fun x hx=>k x (by simpa using hx)];unfold AG;rw[execOp_congr o hs k]
theorem ma {o:Oper}(hs:∀cs d,o.op≠ .select cs d)(k:∀x∈o.op.operands,b.ev x=b'.ev x):opT o.op P call b h o=opT o.op P call b' h o:=by
 have hp:bM P call b h o=bM P call b' h o:=tZ hs k;cases ho:o.op with
 |move x=>rw[ho]at k;show ret (b.ev x) h=ret (b'.ev x) h;rw[k x (by simp[IC])]
 |assign x=>rw[ho]at k;show ret (b.ev x) h=ret (b'.ev x) h;rw[k x (by simp[IC])]
 |pick c x y=>rw[ho]at k;show tE c x y P call b h o=tE c x y P call b' h o;unfold tE;rw[k c (by simp[IC]),k x (by simp[IC]),k y (by simp[IC])]
 |alloc e=>rfl
 |box e x=>rw[ho]at k;show AT e x P call b h o=AT e x P call b' h o;unfold AT;rw[k x (by simp[IC])]
 | build t ps =>
   rw[ho]at k;show oA t ps P call b h o=oA t ps P call b' h o;unfold oA;rw[qn (l:=ps.toList) (b:=b) (b':=b') fun x hx=>k x.2 (by have h':x∈ps.toList:=hx;simp only[IC];first|exact Array.mem_map.2 ⟨x,by simpa using h',rfl⟩|exact List.mem_toArray.2 (IW.2 ⟨x,h',rfl⟩))]
 | buildSlice t n ps =>
   rw[ho]at k;show fq t n ps P call b h o=fq t n ps P call b' h o;unfold fq;rw[qn (l:=ps.toList) (b:=b) (b':=b') fun x hx=>k x.2 (by have h':x∈ps.toList:=hx;simp only[IC];first|exact Array.mem_map.2 ⟨x,by simpa using h',rfl⟩|exact List.mem_toArray.2 (IW.2 ⟨x,h',rfl⟩))]
 |load t x=>rw[ho]at k;show tF t x P call b h o=tF t x P call b' h o;unfold tF;rw[k x (by simp[IC])]
 |store t x v=>rw[ho]at k;show oB t x v P call b h o=oB t x v P call b' h o;unfold oB;rw[k x (by simp[IC]),k v (by simp[IC])]
 |nilCheck x=>rw[ho]at k;show gW x P call b h o=gW x P call b' h o;unfold gW;rw[k x (by simp[IC])]
 |mapUpdate t m i v=>rw[ho]at k;show fL t m i v P call b h o=fL t m i v P call b' h o;unfold fL;rw[k m (by simp[IC]),k i (by simp[IC]),k v (by simp[IC])]
 |insert t m i v=>rw[ho]at k;show fL t m i v P call b h o=fL t m i v P call b' h o;unfold fL;rw[k m (by simp[IC]),k i (by simp[IC]),k v (by simp[IC])]
 | makeMap t r =>
   cases r with
   |none=>rfl
   |some r=>exact hp
 | makeFunc f x y =>
   rw[ho]at k;show gV f x y P call b h o=gV f x y P call b' h o;unfold gV;rw[l8 (l:=x.toList) (b:=b) (b':=b') fun z hz=>k z (by simp only[IC,Array.mem_append];exact .inl (by simpa using hz)),l8 (l:=y.toList) (b:=b) (b':=b') fun z hz=>k z (by simp only[IC,Array.mem_append];exact .inr (by simpa using hz))]
 |makeSlice t l c=>rw[ho]at k;show fY t l c P call b h o=fY t l c P call b' h o;unfold fY;rw[k l (by simp[IC]),k c (by simp[IC])]
 |fieldAddr t x f=>rw[ho]at k;show ga t x f P call b h o=ga t x f P call b' h o;unfold ga;rw[k x (by simp[IC])]
 |field t x f=>rw[ho]at k;show oD t x f P call b h o=oD t x f P call b' h o;unfold oD;rw[k x (by simp[IC])]
 |indexAddr t x i=>rw[ho]at k;show iH t x i P call b h o=iH t x i P call b' h o;unfold iH;rw[k x (by simp[IC]),k i (by simp[IC])]
 |lookup t x i c=>rw[ho]at k;show lc t x i c P call b h o=lc t x i c P call b' h o;unfold lc;rw[k x (by simp[IC]),k i (by simp[IC])]
 |range t x=>rw[ho]at k;show oG t x P call b h o=oG t x P call b' h o;unfold oG;rw[k x (by simp[IC])]
 |extract x i=>rw[ho]at k;show i9 x i P call b h o=i9 x i P call b' h o;unfold i9;rw[k x (by simp[IC])]
 |convert s t x=>rw[ho]at k;show kZ s t x P call b h o=kZ s t x P call b' h o;unfold kZ;rw[hp,k x (by simp[IC])]
 |next x c=>rw[ho]at k;show tH x c P call b h o=tH x c P call b' h o;unfold tH;rw[k x (by simp[IC])]
 | slice t x l i m =>
   rw[ho]at k;show rt t x l i m P call b h o=rt t x l i m P call b' h o;unfold rt rq;rw[hp,k x (by simp[IC]),lj (o:=l) (b:=b) (b':=b') fun y hy=>k y (by subst hy;simp[IC])];have e (d:Nat):i8 d b i=i8 d b' i:=lj fun y hy=>k y (by subst hy;simp[IC])
   cases m with
   |none=>simp only[e]
   |some m=>simp only[e,k m (by simp[IC])]
 | unOp op t x =>
   rw[ho]at k;cases op with
   |not=>show R.b (iG (b.ev x)) (fun c=>ret (.bool (Hj G6 G7 c)) h)=R.b (iG (b'.ev x)) (fun c=>ret (.bool (Hj G6 G7 c)) h);rw[k x (by simp[IC])]
   |_=>exact hp
 | binOp op t x y s =>
   rw[ho]at k;show yO op t x y P call b h o=yO op t x y P call b' h o;have hx:=k x (by simp[IC]);have hy:=k y (by simp[IC]);have he:eqT op t x y P call b h o=eqT op t x y P call b' h o:=by
    have hn (c:Bool):oE c t x y P call b h o=oE c t x y P call b' h o:=by unfold oE;rw[hp,hx,hy]
    cases op<;>first|exact hn G7|exact hn G6|exact hp
   unfold yO;cases AZ op with
   |none=>exact hp
   |some f=>show yN op f t x y P call b h o=yN op f t x y P call b' h o;unfold yN;rw[hx,hy,he]
 | call c =>
   rw[ho]at k;show AY c.callee c P call b h o=AY c.callee c P call b' h o;have ka:∀x∈c.args.toList,b.ev x=b'.ev x:=fun x hx=>k x (by simp only[IC,Call.operands];simp;exact .inr (by simpa using hx))
   cases hc:c.callee with
   |invoke r m=>rfl
   | value f =>
     show tJ f c.args.toList P call b h o=tJ f c.args.toList P call b' h o;unfold tJ;rw[k f (by simp[IC,Call.operands,hc]),l8 ka]
   | builtin d =>
     show ld d c P call b h o=ld d c P call b' h o;cases d with
     | len =>
       show(match c.args.toList with|[x]=>tI c.argTypes.toList x|_=>bM) P call b h o=(match c.args.toList with|[x]=>tI c.argTypes.toList x|_=>bM) P call b' h o;generalize hl:c.args.toList=l at*
       cases l with
       |nil=>exact hp
       | cons x l =>
         cases l with
         |nil=>show tI _ x P call b h o=tI _ x P call b' h o;unfold tI;rw[hp,ka x (by simp)]
         |cons y l=>exact hp
     | append =>
       show(match c.args.toList with|[s,x]=>iI c.argTypes s x|_=>bM) P call b h o=(match c.args.toList with|[s,x]=>iI c.argTypes s x|_=>bM) P call b' h o;generalize hl:c.args.toList=l at*
       cases l with
       |nil=>exact hp
       | cons x l =>
         cases l with
         |nil=>exact hp
         | cons y l =>
           cases l with
           |nil=>show iI _ x y P call b h o=iI _ x y P call b' h o;unfold iI;rw[ka x (by simp),ka y (by simp)]
           |cons z l=>exact hp
     | unsafeSliceData =>
       show(match c.args.toList with|[x]=>iJ x|_=>bM) P call b h o=(match c.args.toList with|[x]=>iJ x|_=>bM) P call b' h o;generalize hl:c.args.toList=l at*
       cases l with
       |nil=>exact hp
       | cons x l =>
         cases l with
         |nil=>show iJ x P call b h o=iJ x P call b' h o;unfold iJ;rw[ka x (by simp)]
         |cons y l=>exact hp
     | unsafeString =>
       show(match c.args.toList with|[x,y]=>fZ c.argTypes.toList x y|_=>bM) P call b h o=(match c.args.toList with|[x,y]=>fZ c.argTypes.toList x y|_=>bM) P call b' h o;generalize hl:c.args.toList=l at*
       cases l with
       |nil=>exact hp
       | cons x l =>
         cases l with
         |nil=>exact hp
         | cons y l =>
           cases l with
           |nil=>show fZ _ x y P call b h o=fZ _ x y P call b' h o;unfold fZ;rw[ka x (by simp),ka y (by simp)]
           |cons z l=>exact hp
     |_=>exact hp
 |_=>exact hp
end Go.Ev
namespace Go.Ev
set_option linter.unusedVariables false
noncomputable section
def veq(v:Value):Value->Bool:=Value.rec (motive_1:=fun _=>Value->Bool) (motive_2:=fun _=>List Value->Bool) (motive_3:=fun _=>List Value->Bool)
 (fun b w=>Except.rec (motive:=fun _=>Bool) (fun _=>G7) (fun c=>b==c) (iG w))
 (fun k n w=>Except.rec (motive:=fun _=>Bool) (fun _=>G7) (fun m=>decide (k=m.k/\n=m.n)) (kW w))
 (fun _ _ _=>G7) (fun _ _ _ _=>G7)
 (fun s w=>Iv (motive:=fun _=>Bool) G7 (fun r=>decide (s.data.toList=r.data.toList)) (xd w))
 (fun a w=>Except.rec (motive:=fun _=>Bool) (fun _=>G7) (fun b=>decide (a=G5 b)) (kX w))
 (fun a n c w=>Iv (motive:=fun _=>Bool) G7 (fun s=>decide (a=s.a/\n=s.len/\c=s.cap)) (fJ w))
 (fun m w=>Iv (motive:=fun _=>Bool) G7 (fun k=>decide (m=k)) (kY w))
 (fun _ _=>G7) (fun _ _ _ _ _ _=>G7) (fun _=>G7) (fun _ _ _ _=>G7) (fun _=>G7)
 (fun _ ih w=>Except.rec (motive:=fun _=>Bool) (fun _=>G7) (fun l=>ih l) (D8 w))
 (fun _ ih w=>Except.rec (motive:=fun _=>Bool) (fun _=>G7) (fun l=>ih l) (D7 w))
 (fun _ ih=>ih)
 (fun l=>Iy (motive:=fun _=>Bool) G6 (fun _ _ _=>G7) l)
 (fun _ _ h t l=>Iy (motive:=fun _=>Bool) G7 (fun w r _=>Hj G7 (t r) (h w)) l) v
end
theorem vN(v:Value):∀w,veq v w=G6->v=w:=by
 refine Value.rec (motive_1:=fun v=>∀w,veq v w=G6->v=w) (motive_2:=fun a=>∀l:List Value,veq (.agg a) (.agg l.toArray)=G6->a.toList=l) (motive_3:=fun a=>∀l:List Value,veq (.agg a.toArray) (.agg l.toArray)=G6->a=l) ?_ ?_ ?_ ?_ ?_ ?_ ?_ ?_ ?_ ?_ ?_ ?_ ?_ ?_ ?_ ?_ ?_ ?_ v
 ·intro b w h;cases w<;>try cases h
  exact congrArg _ (by simpa[veq,iG]using h)
 ·intro k n w h;cases w<;>try cases h
  obtain⟨h1,h2⟩:=of_decide_eq_true h;rw[h1,h2]
 ·intro _ _ w h;cases h
 ·intro _ _ _ w h;cases h
 ·intro s w h;cases w<;>try cases h
  have:=of_decide_eq_true h;rename_i r;cases s;cases r;simp at this;rw[this]
 ·intro a w h;cases w<;>try cases h
  rename_i b;cases b with
  |none=>cases h
  |some b=>rw[of_decide_eq_true h]
 ·intro a n c w h;cases w<;>try cases h
  obtain⟨h1,h2,h3⟩:=of_decide_eq_true h;rw[h1,h2,h3]
 ·intro m w h;cases w<;>try cases h
  rw[of_decide_eq_true h]
 ·intro _ w h;cases h
 ·intro _ _ _ _ _ w h;cases h
 ·intro w h;cases h
 ·intro _ _ _ w h;cases h
 ·intro w h;cases h
 ·intro cs ih w h;cases w<;>try cases h
  rename_i l;have:=ih l.toList h;congr 1;exact Array.toList_inj.1 this
 ·intro cs ih w h;cases w<;>try cases h
  rename_i l;have:=ih l.toList h;congr 1;exact Array.toList_inj.1 this
 ·intro l ih;exact ih
 ·intro l h;cases l with
  |nil=>rfl
  |cons=>cases h
 ·intro x t h1 h2 l h;cases l with
  |nil=>cases h
  | cons y r =>
    have h:Hj (motive:=fun _=>Bool) G7 (veq (.agg t.toArray) (.agg r.toArray)) (veq x y)=true:=h;cases e:veq x y with
    |false=>rw[e]at h;cases h
    |true=>rw[e]at h;rw[h1 y e,h2 r h]
end Go.Ev
namespace Go.Ev
set_option linter.unusedVariables false
noncomputable section
variable {γ:Type}
def Gy:Builtin->Nat| .append| .unsafeString=>2|_=>0
def Gz:Callee->Nat| .builtin b=>Gy b|_=>2
def Dr(o:Op):Nat:=match o with
 | .load _ _=>1
 | .store _ _ _| .lookup _ _ _ _| .mapUpdate _ _ _ _| .insert _ _ _ _| .range _ _| .next _ _| .convert _ _ _=>2
 | .call c=>Gz c.callee
 |_=>0
def bit(i:Nat):Nat:=Nat.shiftLeft 1 i
def has(m i:Nat):Bool:=Ib (Nat.land (Nat.shiftRight m i) 1) 1
def sub(a b:Nat):Bool:=Ib (Nat.land a b) a
structure KO where
 k:Nat
 o:Oper
 x:Bool
 m:Nat
def FZ(tab:T Nat)(e:Edge)(ih:Nat):Nat:=Hj ih (Nat.lor (Nat.lor ih (bit e.on)) (tab.get 0 e.on)) (Iw .any e)
def Ds(tab:T Nat)(l:List Edge):Nat:=Iy (motive:=fun _=>Nat) 0 (fun e _ ih=>FZ tab e ih) l
def kos(l:List Oper):Nat->T Nat->List KO:=Iy (motive:=fun _=>Nat->T Nat->List KO) (fun _ _=>[]) (fun o _ ih i tab=>⟨i,o,Ib (Dr o.op) 2,Ds tab o.after.toList⟩::ih (Nat.succ i) (tab.set 0 i (Ds tab o.after.toList))) l
def oQ(m:Nat)(l:List KO):Nat->(Nat->List KO)->List KO:=Iy (motive:=fun _=>Nat->(Nat->List KO)->List KO) (fun p k=>k p) (fun x _ ih p k=>Hj (ih p k) (Hj (x::ih (Nat.lor p (bit x.k)) k) (ih p k) (has p x.k)) (has m x.k)) l
def Bk(n:Nat)(all l:List KO):Nat->List KO:=Iy (motive:=fun _=>Nat->List KO) (fun p=>oQ (Nat.pred (bit n)) all p (fun _=>[])) (fun x _ ih p=>Hj (ih p) (Hj (oQ (Nat.lor x.m (bit x.k)) all p ih) (ih p) (has p x.k)) x.x) l
def GC(l:List Oper):Nat:=Iy (motive:=fun _=>Nat) 0 (fun _ _ ih=>Nat.succ ih) l
def ua(all:Array Oper):List KO:=Bk (GC all.toList) (kos all.toList 0 .nil) (kos all.toList 0 .nil) 0
structure ST where
 k:Nat
 o:Oper
 i:Nat
 c:Nat
 anc:Nat
 es:List Nat
 ok:Bool
def gM(pos:T Nat)(l:List Edge):List Nat:=Iy (motive:=fun _=>List Nat) [] (fun e _ ih=>Hj ih (Nat.pred (pos.get 0 e.on)::ih) (Iw .any e)) l
def jc(pos:T Nat)(l:List Edge):Bool:=Iy (motive:=fun _=>Bool) G6 (fun e _ ih=>Hj ih (Hj ih G7 (Ib (pos.get 0 e.on) 0)) (Iw .any e)) l
def zd(tab:T Nat)(l:List Nat):Nat:=Iy (motive:=fun _=>Nat) 0 (fun m _ ih=>Nat.lor (Nat.lor ih (bit m)) (tab.get 0 m)) l
def st1(x:KO)(i:Nat)(pos tab:T Nat):ST:=⟨x.k,x.o,i,Dr x.o.op,zd tab (gM pos x.o.after.toList),gM pos x.o.after.toList,Hj G7 (jc pos x.o.after.toList) (Ib (pos.get 0 x.k) 0)⟩
def jd(l:List KO):Nat->T Nat->T Nat->List ST:=Iy (motive:=fun _=>Nat->T Nat->T Nat->List ST) (fun _ _ _=>[]) (fun x _ ih i pos tab=>st1 x i pos tab::ih (Nat.succ i) (pos.set 0 x.k (Nat.succ i)) (tab.set 0 i (zd tab (gM pos x.o.after.toList)))) l
def Fh(l:List ST):T Nat->T Nat:=Iy (motive:=fun _=>T Nat->T Nat) (fun t=>t) (fun s _ ih t=>ih (t.set 0 s.k (Nat.succ s.i))) l
def je(i:Nat)(l:List Edge):Bool:=Iy (motive:=fun _=>Bool) G6 (fun e _ ih=>Hj ih (Hj G7 ih (Nat.blt e.on i)) (Iw .any e)) l
def Bl(t:T Nat)(l:List Oper):Nat->Bool:=Iy (motive:=fun _=>Nat->Bool) (fun _=>G6) (fun o _ ih i=>Hj (Hj G7 (ih (Nat.succ i)) (je i o.after.toList)) G7 (Ib (t.get 0 i) 0)) l
def ub(l:List ST):T Nat->T Nat:=Iy (motive:=fun _=>T Nat->T Nat) (fun t=>t) (fun s _ ih t=>ih (t.set 0 s.i s.anc)) l
def Ga(n:Nat)(t:T Nat)(i:Nat)(k:T Nat->R (T Nat))(d:Option Tmp):R (T Nat):=Iv (motive:=fun _=>R (T Nat)) (k t) (fun q=>bp (Nat.blt q n) (bp (Ib (t.get 0 q) 0) (k (t.set 0 q (Nat.succ i))))) d
def Bm(n:Nat)(l:List ST):T Nat->R (T Nat):=Iy (motive:=fun _=>T Nat->R (T Nat)) (fun t=>.ok t) (fun s _ ih t=>Ga n t s.i ih s.o.dst) l
def Bn(t2:T Nat)(s:ST)(j:Nat):Bool:=Hj (Hj G6 (has (t2.get 0 j) s.i) (Nat.blt s.i j)) (has s.anc j) (Nat.blt j s.i)
def Bo(t1 t2:T Nat)(s:ST)(q:Tmp):Bool:=Nat.rec (motive:=fun _=>Bool) G6 (fun j _=>Bn t2 s j) (t1.get 0 q)
def aW(all:Array Oper):List ST:=jd (ua all) 0 .nil .nil
def okR(all:Array Oper)(l:List ST)(t1 t2:T Nat):Bool:=l.all fun s=>s.ok&&(s.o.looksAt all).all (Bo t1 t2 s)
def Bp(n:Nat)(all:Array Oper):Bool:=Except.rec (motive:=fun _=>Bool) (fun _=>G7) (fun t1=>Bl (Fh (aW all) .nil) all.toList 0&&okR all (aW all) t1 (ub (aW all) .nil)) (Bm n (aW all) .nil)
def below(n:Nat)(v:Value):Bool:=Value.rec (motive_1:=fun _=>Bool) (motive_2:=fun _=>Bool) (motive_3:=fun _=>Bool) (fun _=>G6) (fun _ _=>G6) (fun _ _=>G6) (fun _ _ _=>G6) (fun _=>G6) (fun a=>Iv G6 (fun a=>Nat.blt a.block n) a) (fun a _ _=>Iv G6 (fun a=>Nat.blt a.block n) a) (fun m=>Iv G6 (fun m=>Nat.blt m n) m) (fun _=>G6) (fun _ _ _ x y=>Hj G7 y x) G6 (fun _ _ x=>x) G6 (fun _ x=>x) (fun _ x=>x) (fun _ x=>x) G6 (fun _ _ x y=>Hj G7 y x) v
structure LD where
 i:Nat
 anc:Nat
 t:TypeId
 p:Value
 v:Value
structure LV where
 c:Nat
 anc:Nat
 h:H
def vO(h g:H):R H:=Hj (Hj (.error ()) (R.b (GG (g.get h.n)) fun b=>.ok (h.new b)) (Ib g.n (Nat.succ h.n))) (.ok h) (Ib g.n h.n)
def grown(h g:H)(i al:Nat):Nat:=Hj (Nat.lor al (bit i)) al (Ib g.n h.n)
def xq(P:Ia)(h:H)(t:TypeId)(p v:Value):Bool:=Except.rec (motive:=fun _=>Bool) (fun _=>G7) (fun w=>veq w v) (gU P h t p)
structure DS where
 a:A
 h:H
 hk:H
 lvs:List LV
 lds:List LD
 al:Nat
 xs:Nat
def vP(o:Op)(f:TypeId->Ie->R γ):R γ:=match o with| .load t x=>f t x|_=>.error ()
abbrev KD:=DS->R AH
def dE(P:Ia)(call:bU)(n:Nat)(s:ST)(k:KD)(d:DS):R AH:=
 vh (opT s.o.op P call d.a (.mk .nil d.h.n) s.o) fun v g=>R.b (vO d.h g) fun h=>k ⟨iM s.o.dst n d.a v,h,d.hk,d.lvs,d.lds,grown d.h g s.i d.al,d.xs⟩
def dL(P:Ia)(n:Nat)(s:ST)(k:KD)(d:DS):R AH:=
 vP s.o.op fun t x=>R.b (gU P d.hk t (d.a.ev x)) fun v=>bp (below d.hk.n v) (k ⟨iM s.o.dst n d.a v,d.h,d.hk,d.lvs,⟨s.i,s.anc,t,d.a.ev x,v⟩::d.lds,d.al,d.xs⟩)
def dX(P:Ia)(call:bU)(n:Nat)(s:ST)(k:KD)(d:DS):R AH:=
 bp (sub d.al s.anc) (bp (sub d.xs s.anc) (vh (opT s.o.op P call d.a d.h s.o) fun v h=>bp (Nat.ble d.h.n h.n) (k ⟨iM s.o.dst n d.a v,h,h,⟨Nat.lor d.xs (bit s.i),s.anc,h⟩::d.lvs,d.lds,d.al,Nat.lor d.xs (bit s.i)⟩)))
def xr(P:Ia)(call:bU)(n:Nat)(s:ST)(k:KD)(d:DS):R AH:=
 Nat.rec (motive:=fun _=>R AH) (dE P call n s k d) (fun c _=>Nat.rec (motive:=fun _=>R AH) (dL P n s k d) (fun _ _=>dX P call n s k d) c) s.c
def Ea(n:Nat)(s:ST)(k:KD)(d:DS):R AH:=k ⟨iM s.o.dst n d.a undef,d.h,d.hk,d.lvs,d.lds,d.al,d.xs⟩
def Gb(P:Ia)(xs:Nat)(x:LD)(y:LV):Bool:=Hj (Hj G6 (xq P y.h x.t x.p x.v) (sub (Nat.land x.anc xs) y.c)) G6 (has y.anc x.i)
def Dt(P:Ia)(d:DS):Bool:=d.lds.all fun x=>d.lvs.all fun y=>Gb P d.xs x y
def Bq(P:Ia)(call:bU)(n:Nat)(all:Array Oper)(l:List ST):KD:=
 Iy (motive:=fun _=>KD) (fun d=>bp (Dt P d) (.ok (.mk d.a d.h))) (fun s _ ih d=>R.b (cE s.o.guard all d.a) fun c=>Hj (Ea n s ih d) (xr P call n s ih d) c) l
def rI(a:A)(h:H):DS:=⟨a,h,h,[⟨0,0,h⟩],[],0,0⟩
def Gc(P:Ia)(call:bU)(n:Nat)(all:Array Oper)(a:A)(h:H):R AH:=bp (Bp n all) (Bq P call n all (aW all) (rI a h))
end
end Go.Ev
namespace Go.Ev
set_option linter.unusedSectionVars false
variable {α β γ:Type} {p q:Rho} {P:Ia}
theorem rJ(m i:Nat):has m i=m.testBit i:=by
 show Ib ((m>>>i)&&&1) 1=(1&&&(m>>>i)!=0)
 rw[Nat.and_comm 1,Nat.and_one_is_mod];rcases Nat.mod_two_eq_zero_or_one (m>>>i)with h|h<;>rw[h]<;>rfl
theorem Fi(i:Nat):bit i=2^i:=by
 show 1<<<i=2^i;exact Nat.one_shiftLeft i
theorem iK {i j:Nat}:(bit i).testBit j=G6<->i=j:=by rw[Fi,Nat.testBit_two_pow,decide_eq_true_iff]
theorem gN(a b j:Nat):(Nat.lor a b).testBit j=(a.testBit j||b.testBit j):=Nat.testBit_or a b j
theorem Fj {a b:Nat}(h:sub a b=G6){j:Nat}(k:a.testBit j=G6):b.testBit j=true:=by
 have h:Ib (a&&&b) a=true:=h;rw[I1]at h;have h2:=Nat.testBit_and a b j;rw[h,k]at h2;simpa using h2.symm
theorem Fk {a b:Nat}(h:∀j,a.testBit j=G6->b.testBit j=G6):sub a b=true:=by
 show Ib (a&&&b) a=G6;rw[I1];apply Nat.eq_of_testBit_eq;intro j;rw[Nat.testBit_and];cases e:a.testBit j with
 |false=>rfl
 |true=>rw[h j e];rfl
def Shut(l:List ST)(D:Nat->Prop):Prop:=∀j s,l[j]? =G5 s->D j->∀m∈s.es,D m
theorem xu {D:Nat->Prop}{tab:T Nat}(ht:∀j,D j->∀b,(tab.get 0 j).testBit b=G6->D b):∀{l:List Nat},(∀m∈l,D m)->∀b,(zd tab l).testBit b=G6->D b:=by
 intro l
 induction l with
 |nil=>intro _ b h;cases(show(0:Nat).testBit b=G6 from h)▸Nat.zero_testBit b
 | cons m l ih =>
   intro hl b h;have ih:=ih (fun e he=>hl e (by simp[he]));have hd:=hl m (by simp);have h:(Nat.lor (Nat.lor (zd tab l) (bit m)) (tab.get 0 m)).testBit b=true:=h;rw[gN,gN,IE,IE]at h;rcases h with(h|h)|h
   ·exact ih b h
   ·rw[iK]at h;subst h;exact hd
   ·exact ht _ hd b h
theorem Br:∀(l:List Oper) (i:Nat) (tab:T Nat) (x:KO),x∈kos l i tab->∃k,x.k=i+k/\l[k]? =G5 x.o
 |[],i,tab,x,h=>by cases(show x∈([]:List KO)from h)
 | o :: l, i, tab, x, h => by
   rcases Ix.1 (show x∈⟨i,o,Ib (Dr o.op) 2,Ds tab o.after.toList⟩::kos l (i+1) (tab.set 0 i (Ds tab o.after.toList))from h)with rfl|h
   ·exact⟨0,rfl,rfl⟩
   ·obtain⟨k,h1,h2⟩:=Br l (i+1) _ x h;exact⟨k+1,by omega,by simpa using h2⟩
theorem rK {R:KO->Prop}{m:Nat}:∀(l:List KO) (p:Nat) (k:Nat->List KO),(∀x∈l,R x)->(∀p,∀x∈k p,R x)->∀x∈oQ m l p k,R x
 |[],p,k,_,hk=>hk p
 | y :: l, p, k, hl, hk => by
   have ih:=fun p=>rK (m:=m) l p k (fun x hx=>hl x (by simp[hx])) hk
   show∀x∈(Hj (motive:=fun _=>List KO) (oQ m l p k) (Hj (y::oQ m l (Nat.lor p (bit y.k)) k) (oQ m l p k) (has p y.k)) (has m y.k)),R x;cases has m y.k with
   |false=>exact ih p
   | true =>
     cases has p y.k with
     |true=>exact ih p
     | false =>
       intro x hx;rcases Ix.1 hx with rfl|hx
       ·exact hl _ (by simp)
       ·exact ih _ x hx
theorem Bs {R:KO->Prop}{n:Nat}{all:List KO}(ha:∀x∈all,R x):∀(l:List KO) (p:Nat),∀x∈Bk n all l p,R x
 |[],p=>rK all p _ ha (fun _ x hx=>by cases hx)
 | y :: l, p => by
   have ih:=Bs (n:=n) ha l;show∀x∈(Hj (motive:=fun _=>List KO) (Bk n all l p) (Hj (oQ (Nat.lor y.m (bit y.k)) all p (Bk n all l)) (Bk n all l p) (has p y.k)) y.x),R x;cases y.x with
   |false=>exact ih p
   | true =>
     cases has p y.k with
     |true=>exact ih p
     |false=>exact rK all p _ ha ih
theorem Bt {all:Array Oper}{x:KO}(h:x∈ua all):all.toList[x.k]? =G5 x.o:=by
 refine Bs (R:=fun x=>all.toList[x.k]? =G5 x.o) (fun x hx=>?_) _ _ x h;obtain⟨k,h1,h2⟩:=Br _ _ _ x hx;rw[h1,IV];exact h2
theorem uc:∀(l:List KO) (i:Nat) (pos tab:T Nat),∀(k:Nat) (s:ST),(jd l i pos tab)[k]? =G5 s->∃x pos' tab',l[k]? =G5 x/\s=st1 x (i+k) pos' tab'
 |[],i,pos,tab,k,s,h=>by cases(show([]:List ST)[k]? =G5 s from h)
 | x :: l, i, pos, tab, k, s, h => by
   cases k with
   | zero =>
     have h:G5 (st1 x i pos tab)=G5 s:=h;cases h;exact⟨x,pos,tab,rfl,rfl⟩
   | succ k =>
     obtain⟨y,p',t',h1,h2⟩:=uc l (i+1) _ _ k s h;exact⟨y,p',t',by simpa using h1,by rw[h2];congr 1;omega⟩
theorem qo {all:List ST}{D:Nat->Prop}(hD:Shut all D):∀(l:List KO) (i:Nat) (pos tab:T Nat),(∀k,(jd l i pos tab)[k]? =all[i+k]?)->(∀j,D j->∀b,(tab.get 0 j).testBit b=G6->D b)->
 ∀(k:Nat) (s:ST),(jd l i pos tab)[k]? =G5 s->(∀m∈s.es,D m)->∀b,s.anc.testBit b=G6->D b
 |[],i,pos,tab,_,_,k,s,h=>by cases(show([]:List ST)[k]? =G5 s from h)
 | x :: l, i, pos, tab, hl, ht, k, s, h => by
   intro he b hb;have h0:all[i]? =G5 (st1 x i pos tab):=(hl 0).symm;cases k with
   | zero =>
     have h:G5 (st1 x i pos tab)=G5 s:=h;cases h;exact xu ht he b hb
   | succ k =>
     refine qo hD l (i+1) _ _ (fun k=>?_) (fun j hj b hb=>?_) k s h he b hb
     ·have:=hl (k+1);rw[show i+1+k=i+(k+1)by omega,<-this];rfl
     ·rw[T.get_set]at hb;split at hb
      ·rename_i e;subst e;exact xu ht (hD _ _ h0 hj) b hb
      ·exact ht j hj b hb
theorem Bu {pos:T Nat}:∀{l:List Edge},(∀m∈gM pos l,∃e∈l,Iw .any e=G6/\m=Nat.pred (pos.get 0 e.on))/\(∀e∈l,Iw .any e=G6->Nat.pred (pos.get 0 e.on)∈gM pos l)/\(jc pos l=G6->∀e∈l,Iw .any e=G6->pos.get 0 e.on≠0):=by
 intro l
 induction l with
 |nil=>exact⟨fun m h=>(by cases(show m∈([]:List Nat)from h)),fun e h=>(by cases h),fun _ e h=>(by cases h)⟩
 | cons e l ih =>
   obtain⟨h1,h2,h3⟩:=ih;have eP:gM pos (e::l)=Hj (motive:=fun _=>List Nat) (gM pos l) (Nat.pred (pos.get 0 e.on)::gM pos l) (Iw .any e):=rfl;have eK:jc pos (e::l)=Hj (motive:=fun _=>Bool) (jc pos l) (Hj (jc pos l) G7 (Ib (pos.get 0 e.on) 0)) (Iw .any e):=rfl;rw[eP,eK];cases hb:Iw .any e with
   | false =>
     refine⟨fun m hm=>?_,fun d hd hd2=>?_,fun hk d hd hd2=>?_⟩
     ·obtain⟨d,k1,k2⟩:=h1 m hm;exact⟨d,by simp[k1],k2⟩
     ·rcases Ix.1 hd with rfl|hd
      ·rw[hb]at hd2;cases hd2
      ·exact h2 d hd hd2
     ·rcases Ix.1 hd with rfl|hd
      ·rw[hb]at hd2;cases hd2
      ·exact h3 hk d hd hd2
   | true =>
     refine⟨fun m hm=>?_,fun d hd hd2=>?_,fun hk d hd hd2=>?_⟩
     ·rcases Ix.1 hm with rfl|hm
      ·exact⟨e,by simp,hb,rfl⟩
      ·obtain⟨d,k1,k2⟩:=h1 m hm;exact⟨d,by simp[k1],k2⟩
     ·rcases Ix.1 hd with rfl|hd
      ·exact List.mem_cons_self ..
      ·exact Ix.2 (.inr (h2 d hd hd2))
     ·have hk:(Hj (jc pos l) G7 (Ib (pos.get 0 e.on) 0):Bool)=true:=hk;cases hz:Ib (pos.get 0 e.on) 0 with
      |true=>rw[hz]at hk;cases hk
      | false =>
        rw[hz]at hk;rcases Ix.1 hd with rfl|hd
        ·intro h0;rw[h0]at hz;cases hz
        ·exact h3 hk d hd hd2
theorem qp:∀(l:List KO) (i:Nat) (pos tab:T Nat),(∀s∈jd l i pos tab,s.ok=G6)->∀(k:Nat) (s:ST),(jd l i pos tab)[k]? =G5 s->
 pos.get 0 s.k=0/\(∀(j:Nat) (r:ST),(jd l i pos tab)[j]? =G5 r->r.k=s.k->j=k)/\
 (∀m∈s.es,∃e∈s.o.after.toList,Iw .any e=G6/\((∃(j:Nat) (r:ST),j<k/\m=i+j/\(jd l i pos tab)[j]? =G5 r/\r.k=e.on)\/pos.get 0 e.on=m+1))/\
 (∀e∈s.o.after.toList,Iw .any e=G6->∃m∈s.es,(∃(j:Nat) (r:ST),j<k/\m=i+j/\(jd l i pos tab)[j]? =G5 r/\r.k=e.on)\/pos.get 0 e.on=m+1)
 |[],i,pos,tab,_,k,s,h=>by cases(show([]:List ST)[k]? =G5 s from h)
 | x :: l, i, pos, tab, hok, k, s, h => by
   have h0:(st1 x i pos tab).ok=true:=hok _ (List.mem_cons_self ..);have hx:pos.get 0 x.k=0/\jc pos x.o.after.toList=true:=by
    have h0:(Hj G7 (jc pos x.o.after.toList) (Ib (pos.get 0 x.k) 0):Bool)=true:=h0;cases hb:Ib (pos.get 0 x.k) 0 with
    |false=>rw[hb]at h0;cases h0
    |true=>rw[hb]at h0;rw[I1]at hb;exact⟨hb,h0⟩
   have ih:=qp l (i+1) (pos.set 0 x.k (i+1)) (tab.set 0 i (zd tab (gM pos x.o.after.toList))) (fun s hs=>hok s (Ix.2 (.inr hs)));obtain⟨e1,e2,e3⟩:=Bu (pos:=pos) (l:=x.o.after.toList);cases k with
   | zero =>
     have h:G5 (st1 x i pos tab)=G5 s:=h;cases h;refine⟨hx.1,fun j r hj hr=>?_,fun m hm=>?_,fun e he hb=>?_⟩
     ·cases j with
      |zero=>rfl
      | succ j =>
        have:=(ih j r hj).1;rw[hr,T.get_set,if_pos (show x.k=(st1 x i pos tab).k from rfl)]at this;cases this
     ·obtain⟨e,k1,k2,k3⟩:=e1 m hm;refine⟨e,k1,k2,.inr ?_⟩;have:=e3 hx.2 e k1 k2;rw[k3];exact(Nat.succ_pred_eq_of_ne_zero this).symm
     ·exact⟨_,e2 e he hb,.inr (Nat.succ_pred_eq_of_ne_zero (e3 hx.2 e he hb)).symm⟩
   | succ k =>
     obtain⟨i1,i2,i3,i4⟩:=ih k s h;have hne:x.k≠s.k:=fun e=>by rw[T.get_set,if_pos e]at i1;cases i1
     have conv:∀(e:Edge) (m:Nat),((∃(j:Nat) (r:ST),j<k/\m=i+1+j/\(jd l (i+1) (pos.set 0 x.k (i+1)) (tab.set 0 i (zd tab (gM pos x.o.after.toList))))[j]? =G5 r/\r.k=e.on)\/(pos.set 0 x.k (i+1)).get 0 e.on=m+1)->
      ((∃(j:Nat) (r:ST),j<k+1/\m=i+j/\(jd (x::l) i pos tab)[j]? =G5 r/\r.k=e.on)\/pos.get 0 e.on=m+1):=fun e m hh=>by
      rcases hh with⟨j,r,a,b,c,d⟩|hh
      ·exact .inl ⟨j+1,r,by omega,by omega,c,d⟩
      ·rw[T.get_set]at hh;split at hh
       ·rename_i ek;exact .inl ⟨0,st1 x i pos tab,by omega,by omega,rfl,ek⟩
       ·exact .inr hh
     refine⟨by rw[T.get_set,if_neg hne]at i1;exact i1,fun j r hj hr=>?_,fun m hm=>?_,fun e he hb=>?_⟩
     ·cases j with
      | zero =>
        have hj:G5 (st1 x i pos tab)=G5 r:=hj;cases hj;exact absurd hr hne
      |succ j=>rw[i2 j r hj hr]
     ·obtain⟨e,a,b,c⟩:=i3 m hm;exact⟨e,a,b,conv e m c⟩
     ·obtain⟨m,a,c⟩:=i4 e he hb;exact⟨m,a,conv e m c⟩
theorem xv:∀(l:List ST) (t:T Nat) (k:Nat),(Fh l t).get 0 k≠0->t.get 0 k≠0\/∃s∈l,s.k=k
 |[],t,k,h=>.inl h
 | s :: l, t, k, h => by
   rcases xv l (t.set 0 s.k (Nat.succ s.i)) k h with h|⟨r,h1,h2⟩
   ·rw[T.get_set]at h;split at h
    ·rename_i e;exact .inr ⟨s,by simp,e⟩
    ·exact .inl h
   ·exact .inr ⟨r,by simp[h1],h2⟩
theorem zf {i:Nat}:∀{l:List Edge},je i l=G6->∀e∈l,Iw .any e=G6->e.on<i:=by
 intro l
 induction l with
 |nil=>intro _ e h;cases h
 | cons e l ih =>
   intro h;have h:(Hj (je i l) (Hj G7 (je i l) (Nat.blt e.on i)) (Iw .any e):Bool)=true:=h;intro d hd hb;cases hbe:Iw .any e with
   | false =>
     rw[hbe]at h;rcases Ix.1 hd with rfl|hd
     ·rw[hbe]at hb;cases hb
     ·exact ih h d hd hb
   | true =>
     rw[hbe]at h;have h:(Hj G7 (je i l) (Nat.blt e.on i):Bool)=true:=h;cases hlt:Nat.blt e.on i with
     |false=>rw[hlt]at h;cases h
     | true =>
       rw[hlt]at h;rcases Ix.1 hd with rfl|hd
       ·exact gK hlt
       ·exact ih h d hd hb
theorem rL {t:T Nat}:∀(l:List Oper) (i:Nat),Bl t l i=G6->∀(k:Nat) (o:Oper),l[k]? =G5 o->t.get 0 (i+k)≠0/\∀e∈o.after.toList,Iw .any e=G6->e.on<i+k
 |[],i,_,k,o,hk=>by cases(show([]:List Oper)[k]? =G5 o from hk)
 | o :: l, i, h, k, o', hk => by
   have h:(Hj (Hj G7 (Bl t l (i+1)) (je i o.after.toList)) G7 (Ib (t.get 0 i) 0):Bool)=true:=h;cases hb:Ib (t.get 0 i) 0 with
   |true=>rw[hb]at h;cases h
   | false =>
     rw[hb]at h;have h:(Hj G7 (Bl t l (i+1)) (je i o.after.toList):Bool)=true:=h;cases he:je i o.after.toList with
     |false=>rw[he]at h;cases h
     | true =>
       rw[he]at h;cases k with
       | zero =>
         have hk:G5 o=G5 o':=hk;cases hk;exact⟨fun h0=>(by rw[show i+0=i from rfl]at h0;rw[h0]at hb;cases hb),zf he⟩
       | succ k =>
         have:=rL l (i+1) h k o' (by simpa using hk);rw[show i+(k+1)=i+1+k by omega];exact this
section
variable {all:Array Oper}
theorem fu {k:Nat}{s:ST}(h:(aW all)[k]? =G5 s):all.toList[s.k]? =G5 s.o/\s.i=k/\s.c=Dr s.o.op:=by
 obtain⟨x,pos',tab',h1,rfl⟩:=uc (ua all) 0 .nil .nil k s h;exact⟨Bt (List.mem_of_getElem? h1),IV k,rfl⟩
theorem rM {D:Nat->Prop}(hD:Shut (aW all) D){k:Nat}{s:ST}(h:(aW all)[k]? =G5 s)(he:∀m∈s.es,D m):∀b,has s.anc b=G6->D b:=by
 intro b hb;rw[rJ]at hb;refine qo hD (ua all) 0 .nil .nil (fun k=>by rw[IV];rfl) (fun j _ b hb=>?_) k s h he b hb;rw[T.get_nil]at hb;simp at hb
theorem xw:∀(l:List ST) (t:T Nat) (j:Nat),(∀s∈l,s.i≠j)->(ub l t).get 0 j=t.get 0 j
 |[],t,j,_=>rfl
 | s :: l, t, j, h => by
   show(ub l (t.set 0 s.i s.anc)).get 0 j=_;rw[xw l _ j (fun s hs=>h s (by simp[hs])),T.get_set,if_neg (h s (by simp))]
theorem ud:∀(l:List ST) (t:T Nat) (i:Nat),(∀k s,l[k]? =G5 s->s.i=i+k)->∀k s,l[k]? =G5 s->(ub l t).get 0 (i+k)=s.anc
 |[],t,i,_,k,s,h=>by simp at h
 | s0 :: l, t, i, hi, k, s, h => by
   show(ub l (t.set 0 s0.i s0.anc)).get 0 (i+k)=_;have h0:s0.i=i:=hi 0 s0 rfl;have hl:∀k s,l[k]? =G5 s->s.i=i+1+k:=fun k s h=>by have:=hi (k+1) s (by simpa using h);omega
   cases k with
   | zero =>
     simp at h;subst h;rw[xw,T.get_set,if_pos (by omega)];intro s hs;obtain⟨k,hk⟩:=List.mem_iff_getElem?.1 hs;have:=hl k s hk;omega
   | succ k =>
     have:=ud l (t.set 0 s0.i s0.anc) (i+1) hl k s (by simpa using h);rw[show i+(k+1)=i+1+k by omega];exact this
theorem Bv {k:Nat}{s:ST}(h:(aW all)[k]? =G5 s):(ub (aW all) .nil).get 0 k=s.anc:=by
 have:=ud (aW all) .nil 0 (fun k s h=>by have:=(fu h).2.1;omega) k s h;simpa using this
theorem vQ {n:Nat}:∀(l:List ST) (t t1:T Nat),Bm n l t=.ok t1->(∀q,t.get 0 q≠0->t1.get 0 q=t.get 0 q)/\∀s∈l,∀q,s.o.dst=G5 q->q<n/\t1.get 0 q=s.i+1/\t.get 0 q=0
 |[],t,t1,h=>by cases h;exact⟨fun _ _=>rfl,fun s hs=>by cases hs⟩
 | s0 :: l, t, t1, h => by
   have h:Ga n t s0.i (Bm n l) s0.o.dst=.ok t1:=h;cases hd:s0.o.dst with
   | none =>
     rw[hd]at h;obtain⟨h1,h2⟩:=vQ l t t1 h;refine⟨h1,fun s hs q hq=>?_⟩;rcases Ix.1 hs with rfl|hs
     ·rw[hd]at hq;cases hq
     ·exact h2 s hs q hq
   | some q0 =>
     rw[hd]at h;obtain⟨e1,h⟩:=aT (show bp (Nat.blt q0 n) (bp (Ib (t.get 0 q0) 0) (Bm n l (t.set 0 q0 (Nat.succ s0.i))))=.ok t1 from h);obtain⟨e2,h⟩:=aT h;rw[I1]at e2;obtain⟨h1,h2⟩:=vQ l _ t1 h;have k0:t1.get 0 q0=s0.i+1:=by
      have:=h1 q0;rw[T.get_set,if_pos rfl]at this;exact this (Nat.succ_ne_zero _)
     refine⟨fun q hq=>?_,fun s hs q hq=>?_⟩
     ·have hne:q0≠q:=fun e=>hq (e▸e2)
      have:=h1 q;rw[T.get_set,if_neg hne]at this;exact this hq
     ·rcases Ix.1 hs with rfl|hs
      ·rw[hd]at hq;cases hq;exact⟨gK e1,k0,e2⟩
      ·obtain⟨a,b,c⟩:=h2 s hs q hq;rw[T.get_set]at c;split at c
       ·cases c
       ·exact⟨a,b,c⟩
structure ue(n:Nat)(all:Array Oper):Prop where
 back:∀(k:Nat) (o:Oper),all.toList[k]? =G5 o->∀e∈o.after.toList,Iw .any e=G6->e.on<k
 each:∀(k:Nat) (o:Oper),all.toList[k]? =G5 o->∃(j:Nat) (s:ST),(aW all)[j]? =G5 s/\s.k=k/\s.o=o
 inj:∀(i j:Nat) (s r:ST),(aW all)[i]? =G5 s->(aW all)[j]? =G5 r->s.k=r.k->i=j
 es:∀(j:Nat) (s:ST),(aW all)[j]? =G5 s->∀m∈s.es,∃e∈s.o.after.toList,Iw .any e=G6/\∃r:ST,m<j/\(aW all)[m]? =G5 r/\r.k=e.on
 se:∀(j:Nat) (s:ST),(aW all)[j]? =G5 s->∀e∈s.o.after.toList,Iw .any e=G6->∃m∈s.es,∃r:ST,m<j/\(aW all)[m]? =G5 r/\r.k=e.on
 dst:∀(k:Nat) (s:ST) (q:Tmp),(aW all)[k]? =G5 s->s.o.dst=G5 q->q<n
 one:∀(i j:Nat) (s r:ST) (q:Tmp),(aW all)[i]? =G5 s->(aW all)[j]? =G5 r->s.o.dst=G5 q->r.o.dst=G5 q->i=j
 look:∀(i j:Nat) (s r:ST) (q:Tmp),(aW all)[i]? =G5 s->(aW all)[j]? =G5 r->r.o.dst=G5 q->q∈s.o.looksAt all->j<i/\has s.anc j=G6\/i<j/\has r.anc i=G6\/i=j
theorem Fl {n:Nat}(h:Bp n all=G6):ue n all:=by
 unfold Bp at h;cases ht:Bm n (aW all) .nil with
 |error e=>rw[ht]at h;cases h
 | ok t1 =>
   rw[ht]at h;have h:(Bl (Fh (aW all) .nil) all.toList 0&&(aW all).all (fun s=>s.ok&&(s.o.looksAt all).all (Bo t1 (ub (aW all) .nil) s)))=true:=h;rw[Ik,Ij]at h;obtain⟨hall,h⟩:=h;obtain⟨_,hd⟩:=vQ _ _ _ ht;have key:∀(i:Nat) (s:ST) (q:Tmp),(aW all)[i]? =G5 s->s.o.dst=G5 q->q<n/\t1.get 0 q=i+1:=fun i s q hs hq=>by
    obtain⟨a,b,_⟩:=hd s (List.mem_of_getElem? hs) q hq;rw[(fu hs).2.1]at b;exact⟨a,b⟩
   have hok:∀s∈aW all,s.ok=true:=fun s hs=>by
    have:=h s hs;rw[Ik]at this;exact this.1
   have hpos:∀(k:Nat) (s:ST),(aW all)[k]? =G5 s->(∀(j:Nat) (r:ST),(aW all)[j]? =G5 r->r.k=s.k->j=k)/\
    (∀m∈s.es,∃e∈s.o.after.toList,Iw .any e=G6/\∃r:ST,m<k/\(aW all)[m]? =G5 r/\r.k=e.on)/\
    (∀e∈s.o.after.toList,Iw .any e=G6->∃m∈s.es,∃r:ST,m<k/\(aW all)[m]? =G5 r/\r.k=e.on):=fun k s hs=>by
    obtain⟨_,i2,i3,i4⟩:=qp (ua all) 0 .nil .nil hok k s hs;refine⟨i2,fun m hm=>?_,fun e he hb=>?_⟩
    ·obtain⟨e,a,b,c⟩:=i3 m hm;rcases c with⟨j,r,c1,c2,c3,c4⟩|c
     ·rw[IV]at c2;subst c2;exact⟨e,a,b,r,c1,c3,c4⟩
     ·rw[T.get_nil]at c;cases c
    ·obtain⟨m,a,c⟩:=i4 e he hb;rcases c with⟨j,r,c1,c2,c3,c4⟩|c
     ·rw[IV]at c2;subst c2;exact⟨_,a,r,c1,c3,c4⟩
     ·rw[T.get_nil]at c;cases c
   have hhas:∀(k:Nat) (o:Oper),all.toList[k]? =G5 o->∃(j:Nat) (s:ST),(aW all)[j]? =G5 s/\s.k=k/\s.o=o:=fun k o ho=>by
    have:=(rL all.toList 0 hall k o ho).1;rw[IV]at this;rcases xv _ _ k this with h0|⟨s,h1,h2⟩
    ·rw[T.get_nil]at h0;exact absurd rfl h0
    ·obtain⟨j,hj⟩:=List.mem_iff_getElem?.1 h1;refine⟨j,s,hj,h2,?_⟩;have:=(fu hj).1;rw[h2,ho]at this;cases this;rfl
   refine⟨fun k o ho e he hb=>?_,hhas,fun i j s r hs hr hk=>((hpos i s hs).1 j r hr hk.symm).symm,fun j s hs=>(hpos j s hs).2.1,fun j s hs=>(hpos j s hs).2.2,fun k s q hs hq=>(key k s q hs hq).1,fun i j s r q hs hr h1 h2=>?_,fun i j s r q hs hr hq hl=>?_⟩
   ·have:=(rL all.toList 0 hall k o ho).2 e he hb;rw[IV]at this;exact this
   ·have a:=(key i s q hs h1).2;have b:=(key j r q hr h2).2;omega
   ·have:=h s (List.mem_of_getElem? hs);rw[Ik,Ij]at this;have h1:=this.2 q hl;unfold Bo at h1;rw[(key j r q hr hq).2]at h1;have h1:Bn (ub (aW all) .nil) s j=true:=h1;unfold Bn at h1;rw[(fu hs).2.1,Bv hr]at h1;cases e1:Nat.blt j i with
    |true=>rw[e1]at h1;exact .inl ⟨gK e1,h1⟩
    | false =>
      rw[e1]at h1;cases e2:Nat.blt i j with
      |true=>rw[e2]at h1;exact .inr (.inl ⟨gK e2,h1⟩)
      | false =>
        refine .inr (.inr ?_);have a: ¬j<i:=fun k=>by
         have:Nat.blt j i=true:=by rw[Nat.blt_eq];exact k
         rw[this]at e1;cases e1
        have b: ¬i<j:=fun k=>by
         have:Nat.blt i j=true:=by rw[Nat.blt_eq];exact k
         rw[this]at e2;cases e2
        omega
end
end Go.Ev
