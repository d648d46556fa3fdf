/- Walks and plain facts for the law on type variables, for all values and types that the heap holds (texts Lex). -/
import Derived.StillTail
import Derived.Laws.Sem
import Derived.WalkKit
set_option linter.unusedVariables false
set_option linter.unusedSimpArgs false
set_option maxHeartbeats 64000000
open Option renaming none -> G0, some -> G5
open Bool renaming true -> G6, false -> G7
open Array renaming all_eq_true_iff_forall_mem -> JN, getD_eq_getD_getElem? -> JG, getElem?_eq_some_iff -> I6, getElem?_eq_none -> Jh
open List renaming getElem?_eq_getElem -> Jk, mem_append_left -> JD, all_eq_true -> Ij, map_cons -> IY, mem_map -> IW
open Nat renaming testBit_two_pow -> JE, testBit_or -> Js, lt_or_ge -> IT
open Bool renaming false_eq_true -> Je, and_eq_true -> Ik, or_eq_true -> IE
open Option.some renaming inj -> Iq
open Go.Result renaming andThen -> IG
open Go.Region renaming wanted -> ID, binds -> Iw, ready -> I5
open Go.Sem renaming run_bind -> It
open Go renaming wpOp_mono -> IX, Program -> Ia, Operand -> Ie, yielded -> Iz
namespace Go.Lex
open Go
def Blind {α:Type}(P:Ia)(s:Sem α):Prop:=∀w a w',s.run P w=.ok a w'->w'=w/\∀w2,s.run P w2=.ok a w2
def kh {α:Type}(P:Ia)(s:Sem α):Prop:=∀w a w',s.run P w=.ok a w'->w'=w
def Never {α:Type}(P:Ia)(s:Sem α):Prop:=∀w a w',s.run P w≠ .ok a w'
section
variable {α β:Type} {P:Ia}
theorem Never.blind {s:Sem α}(h:Never P s):Blind P s:=fun w a w' e=>absurd e (h w a w')
theorem Blind.reads {s:Sem α}(h:Blind P s):kh P s:=fun w a w' e=>(h w a w' e).1
theorem au(a:α):Blind P (pure a:Sem α):=by
 intro w b w' h;simp at h;obtain⟨rfl,rfl⟩:=h;exact⟨rfl,fun w2=>by simp⟩
theorem mW(x:Halt):Never P (.halt x:Sem α):=by
 intro w b w' h;simp[Sem.run]at h
theorem mX(x:Halt):Blind P (.halt x:Sem α):=(mW x).blind
theorem dZ:Blind P program:=by
 intro w b w' h;simp[program,Sem.run]at h;obtain⟨rfl,rfl⟩:=h;exact⟨rfl,fun w2=>by simp[program,Sem.run]⟩
theorem andThen_ok {r:Result α}{f:α->World->Result β}{b:β}{w':World}(h:r.andThen f=.ok b w'):∃a w1,r=.ok a w1/\f a w1=.ok b w':=by
 cases r with
 |ok a w1=>exact⟨a,w1,rfl,h⟩
 |halt x w1=>simp[IG]at h
theorem aw {s:Sem α}{f:α->Sem β}(hs:Blind P s)(hf:∀a,Blind P (f a)):Blind P (s>>=f):=by
 intro w b w' h;rw[It]at h;obtain⟨a,w1,h1,h2⟩:=andThen_ok h;obtain⟨rfl,k1⟩:=hs _ _ _ h1;obtain⟨rfl,k2⟩:=hf _ _ _ _ h2;refine⟨rfl,fun w2=>?_⟩;rw[It,k1 w2];exact k2 w2
theorem fQ {s:Sem α}{f:α->Sem β}(hs:kh P s)(hf:∀a,kh P (f a)):kh P (s>>=f):=by
 intro w b w' h;rw[It]at h;obtain⟨a,w1,h1,h2⟩:=andThen_ok h;have k1:=hs _ _ _ h1;have k2:=hf _ _ _ _ h2;rw[k2,k1]
theorem ia {s:Sem α}{f:α->Sem β}(hf:∀a,Never P (f a)):Never P (s>>=f):=by
 intro w b w' h;rw[It]at h;obtain⟨a,w1,h1,h2⟩:=andThen_ok h;exact hf _ _ _ _ h2
theorem jE(v:Value):Never P (goPanic v:Sem α):=mW _
theorem eA(e:RuntimeError):Never P (runtimePanic e:Sem α):=by
 unfold runtimePanic;refine ia fun p=>?_
 cases e<;>first|exact jE _|exact ia fun _=>ia fun _=>jE _
theorem ko(k:IntKind)(x y:Int)(c:BoundsCode):Never P (boundsPanic k x y c:Sem α):=by
 unfold boundsPanic;dsimp only;split<;>exact ia fun _=>eA _
theorem aD(s:String):Blind P (stuck s:Sem α):=mX _
theorem bb(u:Unsupported):Blind P (unsupported u:Sem α):=mX _
theorem dD(k:IntKind)(x y:Int)(c:BoundsCode):Blind P (boundsPanic k x y c:Sem α):=(ko k x y c).blind
theorem cH(e:RuntimeError):Blind P (runtimePanic e:Sem α):=(eA e).blind
theorem bc(t:TypeId):Blind P (underlying t):=by
 unfold underlying;refine aw dZ fun p=>?_
 split
 ·exact au _
 ·exact aD _
theorem eG(t:TypeId):Blind P (typeInfo t):=by
 unfold typeInfo;refine aw dZ fun p=>?_
 split
 ·exact au _
 ·exact aD _
theorem bS(t:TypeId):Blind P (sizeOf t):=aw (eG t) fun _=>au _
theorem iL(t:TypeId):Blind P (zeroValue t):=by
 unfold zeroValue;refine aw (eG t) fun p=>?_
 split
 ·exact au _
 ·exact bb _
theorem iO(t:TypeId):Blind P (isAgg t):=by
 unfold isAgg;refine aw (bc t) fun p=>?_
 split<;>exact au _
theorem co(t:TypeId)(cs:Array Value)(off:Nat):Blind P (part t cs off):=by
 unfold part;refine aw (iO t) fun p=>?_
 split
 ·exact aw (bS _) fun _=>au _
 ·split
  ·exact au _
  ·exact aD _
theorem gC(v:Value):Blind P (asIntOf v):=by
 unfold asIntOf;split<;>first|exact au _|exact bb _|exact aD _
theorem fC(v:Value):Blind P (asBool v):=by
 unfold asBool;split<;>first|exact au _|exact aD _
theorem sf(v:Value):Blind P (asAgg v):=by
 unfold asAgg;split<;>first|exact au _|exact aD _
theorem qv(v:Value):Blind P (asAddr v):=by
 unfold asAddr;split<;>first|exact au _|exact aD _|exact cH _
theorem eH(v:Value):Blind P (Instr.sureAddr v):=by
 unfold Instr.sureAddr;split<;>first|exact au _|exact aD _
theorem lp(x:Value)(y:Nat)(c:BoundsCode):Blind P (Instr.sliceBound x y c):=by
 unfold Instr.sliceBound;refine aw (gC x) fun ki=>?_
 obtain⟨k,i⟩:=ki;dsimp only;split
 ·exact au _
 ·exact dD _ _ _ _
theorem cO(b:Bool)(len cap:Nat)(lo hi mx:Option Value):Blind P (Instr.sliceBounds b len cap lo hi mx):=by
 unfold Instr.sliceBounds;dsimp only
 repeat' first|exact au _|exact aD _|exact lp _ _ _|refine aw ?_ fun _=>?_|split
theorem sg(t:TypeId)(x:Value)(lo hi mx:Option Value):Blind P (Instr.slice t x lo hi mx):=by
 unfold Instr.slice;refine aw (bc t) fun d=>?_
 split
 ·split
  ·exact aw (aD _) fun _=>aw (cO _ _ _ _ _ _) fun _=>au _
  ·exact aw (cO _ _ _ _ _ _) fun _=>au _
 ·exact aw (cO _ _ _ _ _ _) fun _=>aw (bS _) fun _=>au _
 ·refine aw (qv _) fun _=>aw (bc _) fun d=>?_
  split
  ·exact aw (cO _ _ _ _ _ _) fun _=>aw (bS _) fun _=>au _
  ·exact aD _
 ·exact aD _
theorem o4(t:TypeId)(x:Value)(lo hi mx:Option Value):Blind P (Instr.sliceAt t x lo hi mx):=by
 unfold Instr.sliceAt;refine aw (bc t) fun d=>?_
 split
 ·exact aw (eH _) fun _=>aw (cO _ _ _ _ _ _) fun _=>aw (bS _) fun _=>au _
 ·exact sg _ _ _ _ _
theorem o5(t:TypeId)(x i:Value):Blind P (Instr.indexAt t x i):=by
 unfold Instr.indexAt;refine aw (gC i) fun ki=>?_
 dsimp only
 repeat' first|exact au _|exact aD _|exact bc _|exact eH _|exact bS _|exact bb _|exact dD _ _ _ _|refine aw ?_ fun _=>?_|split
theorem sh(t:TypeId)(x i:Value):Blind P (Instr.index t x i):=by
 unfold Instr.index;refine aw (gC i) fun ki=>aw (bc t) fun d=>?_
 split
 ·split
  ·exact aw (bS _) fun _=>co _ _ _
  ·exact dD _ _ _ _
 ·split
  ·exact au _
  ·exact dD _ _ _ _
 ·exact aD _
theorem sj(t:TypeId)(x:Value)(f:Nat):Blind P (Instr.field t x f):=by
 unfold Instr.field;refine aw (bc t) fun d=>?_
 split
 ·split
  ·exact aw (sf _) fun _=>co _ _ _
  ·exact aD _
 ·exact aD _
theorem o6(t:Value)(i:Nat):Blind P (Instr.extract t i):=by
 unfold Instr.extract;split
 ·split<;>first|exact au _|exact aD _
 ·exact aD _
theorem jC(t:TypeId)(x:Value):Blind P (Instr.makeInterface t x):=by
 unfold Instr.makeInterface;refine aw (bc t) fun d=>?_
 split<;>first|exact au _|exact aD _
theorem kq(l:List FieldStep):∀(t:TypeId) (x:Option Value),Blind P (followBlind l t x):=by
 induction l with
 |nil=>intro t x;exact au _
 | cons s l ih =>
   intro t x;unfold followBlind;refine aw (bc _) fun d=>?_
   split
   ·split
    ·split
     ·exact au _
     ·exact ih _ _
     ·exact aD _
     ·exact au _
     ·exact aw (co _ _ _) fun _=>ih _ _
     ·exact aD _
     ·exact ih _ _
    ·exact aD _
   ·exact aD _
theorem mY(n:Nat):∀(t:TypeId) (v:Value) (name:String),Blind P (nilAhead n t v name):=by
 induction n with
 |zero=>intro t v name;exact au _
 | succ n ih =>
   intro t v name;unfold nilAhead;refine aw (eG _) fun i=>?_
   split
   ·refine aw (kq _ _ _) fun r=>?_
    split
    ·exact au _
    ·split
     ·exact ih _ _ _
     ·exact au _
     ·exact aD _
     ·exact au _
     ·exact au _
     ·refine aw (bc _) fun d=>?_
      split<;>exact au _
   ·exact aD _
theorem dw {t:TypeId}{f:TypeDesc->Sem β}(hf:∀d,P.underlying t=G5 d->Blind P (f d)):Blind P (underlying t>>=f):=by
 intro w b w' h;have key : ∀ w, (underlying t).run P w = (match P.underlying t with | some d => .ok d w | none => .halt (.stuck "no such type") w) := by
  intro w;simp only[underlying,It,program,Sem.run,IG];cases P.underlying t<;>simp[stuck]
 rw[It,key]at h;cases hd:P.underlying t with
 |none=>simp[hd,IG]at h
 | some d =>
   simp only[hd,IG]at h;obtain⟨rfl,k⟩:=hf d hd _ _ _ h;refine⟨rfl,fun w2=>?_⟩;rw[It,key,hd];exact k w2
def okV:Value->Bool
 | .int .. | .string _| .bool _=>G6
 |_=>G7
def okD(v:Value):Bool:=okV v||(match v with| .agg cs=>cs.toList.all okV|_=>G7)
def uD:Value->Bool
 | .pointer G0| .slice G0 _ _| .map G0=>G6
 |_=>G7
def Cj:BinOp->Bool
 | .eql| .neq=>G6
 |_=>G7
def zy(op:BinOp)(x y:Value):Bool:=(okV x&&okV y)||(Cj op&&(uD x||uD y))||(Cj op&&okD x&&okD y)
theorem dp(op:BinOp)(k yk:IntKind)(a b:Int):Blind P (Op.intArith op k a b)/\Blind P (Op.intDiv op k a b)/\Blind P (Op.intBits op k a b)/\Blind P (Op.intCmp op a b)/\Blind P (Op.shift op k a yk b):=by
 refine⟨?_,?_,?_,?_,?_⟩
 ·unfold Op.intArith;split<;>first|exact au _|exact aD _
 ·unfold Op.intDiv;repeat' first|exact au _|exact aD _|exact cH _|split
 ·unfold Op.intBits;dsimp only;split<;>first|exact au _|exact aD _
 ·unfold Op.intCmp;split<;>first|exact au _|exact aD _
 ·unfold Op.shift;dsimp only;repeat' first|exact au _|exact aD _|exact cH _|split
theorem eI(op:BinOp)(a b:ByteArray):Blind P (Op.stringOp op a b):=by
 unfold Op.stringOp;dsimp only;repeat' first|exact au _|exact aD _|exact bb _|split
theorem mg(t:TypeId)(x y:Value)(h:(okV x&&okV y)=G6\/uD x=G6\/uD y=G6):Blind P (Op.equal t x y):=by
 unfold Op.equal;change Blind P (Op.equalIn (9999+1) t x y);unfold Op.equalIn;refine aw (bc t) fun d=>?_
 split<;>first
  |exact au _
  |exact aD _
  |exact bb _
  |(exfalso;simp[okV,uD]at h;done)
  |(split<;>first|exact au _|exact aD _)
  |skip
 all_goals
  unfold samePointer;split<;>first|exact au _|(exfalso;simp[okV,uD]at h;done)
theorem eB {s:Sem α}{f:α->Sem β}{R:α->Prop}(hs:Blind P s)(hR:∀w a w',s.run P w=.ok a w'->R a)(hf:∀a,R a->Blind P (f a)):Blind P (s>>=f):=by
 intro w b w' h;rw[It]at h;obtain⟨a,w1,h1,h2⟩:=andThen_ok h;obtain⟨rfl,k1⟩:=hs _ _ _ h1;obtain⟨rfl,k2⟩:=hf _ (hR _ _ _ h1) _ _ _ h2;refine⟨rfl,fun w2=>?_⟩;rw[It,k1 w2];exact k2 w2
theorem eC {γ:Type}(f:α->γ->Sem (ForInStep γ))(hf:∀a s,Blind P (f a s)):∀(l:List α) (s:γ),Blind P (forIn l s f)
 |[],s=>by simp only[List.forIn_nil];exact au _
 | a :: l, s => by
   simp only[List.forIn_cons];refine aw (hf a s) fun r=>?_
   cases r with
   |done b=>exact au _
   |yield b=>exact eC f hf l b
theorem gO {t:TypeId}{cs:Array Value}{off:Nat}(hcs:cs.toList.all okV=G6)(w:World)(v:Value)(w':World)(h:(part t cs off).run P w=.ok v w'):okD v=true:=by
 unfold part at h;rw[It]at h;obtain⟨b,w1,h1,h2⟩:=andThen_ok h;cases b
 ·simp only[Je,if_false]at h2;split at h2
  ·rename_i v2 hv2;simp at h2;obtain⟨rfl,rfl⟩:=h2;have:v2∈cs.toList:=by simpa using Array.mem_of_getElem? hv2
   unfold okD;rw[Ij.1 hcs _ this];rfl
  ·simp[stuck]at h2
 ·simp only[if_true]at h2;rw[It]at h2;obtain⟨n,w2,h3,h4⟩:=andThen_ok h2;simp at h4;obtain⟨rfl,rfl⟩:=h4;unfold okD;rw[IE];right;simp only[Ij]at hcs ⊢;intro x hx;refine hcs x ?_;simp only[Array.toList_extract]at hx;exact List.mem_of_mem_drop (List.mem_of_mem_take (by simpa[List.extract]using hx))
theorem eY:∀(d:Nat) (t:TypeId) (x y:Value),okD x=G6->okD y=G6->Blind P (Op.equalIn d t x y)
 |0,_,_,_,_,_=>by unfold Op.equalIn;exact bb _
 | d + 1, t, x, y, hx, hy => by
   unfold Op.equalIn;refine aw (bc t) fun D=>?_
   split<;>first
    |exact au _
    |exact aD _
    |exact bb _
    |(exfalso;simp[okD,okV]at hx;done)
    |(exfalso;simp[okD,okV]at hy;done)
    |(split<;>first|exact au _|exact aD _)
    |skip
   ·rename_i fields xs ys;have hx':xs.toList.all okV=true:=by simpa[okD,okV]using hx
    have hy':ys.toList.all okV=true:=by simpa[okD,okV]using hy
    refine aw dZ fun p=>?_
    dsimp only;split
    ·exact aw (bb _) fun _=>aw (by
      rw[<-Array.forIn_toList];refine eC _ (fun f s=>?_) _ _;split
      ·exact eB (co _ _ _) (gO hx') fun a ha=>eB (co _ _ _) (gO hy') fun b hb=>aw (eY d _ _ _ ha hb) fun r=>by split<;>exact au _
      ·exact au _) fun s=>by obtain⟨r,_⟩:=s;cases r<;>exact au _
    ·exact aw (by
      rw[<-Array.forIn_toList];refine eC _ (fun f s=>?_) _ _;split
      ·exact eB (co _ _ _) (gO hx') fun a ha=>eB (co _ _ _) (gO hy') fun b hb=>aw (eY d _ _ _ ha hb) fun r=>by split<;>exact au _
      ·exact au _) fun s=>by obtain⟨r,_⟩:=s;cases r<;>exact au _
   ·rename_i len elem xs ys;have hx':xs.toList.all okV=true:=by simpa[okD,okV]using hx
    have hy':ys.toList.all okV=true:=by simpa[okD,okV]using hy
    refine aw (bS _) fun n=>aw ?_ fun s=>by obtain⟨r,_⟩:=s;cases r<;>exact au _
    rw[Std.Legacy.Range.forIn_eq_forIn_range'];refine eC _ (fun i s=>?_) _ _;exact eB (co _ _ _) (gO hx') fun a ha=>eB (co _ _ _) (gO hy') fun b hb=>aw (eY d _ _ _ ha hb) fun r=>by split<;>exact au _
theorem fw:∀(d:Nat) (t:TypeId) (x y:Value),Blind P (Op.eqGuardIn d t x y)
 |0,_,_,_=>by unfold Op.eqGuardIn;exact bb _
 | d + 1, t, x, y => by
   unfold Op.eqGuardIn;refine aw (bc t) fun D=>?_
   split
   ·exact au _
   ·refine aw ?_ fun s=>by obtain⟨r,_⟩:=s;cases r<;>exact au _
    rw[<-Array.forIn_toList];refine eC _ (fun f s=>?_) _ _;split
    ·exact aw (co _ _ _) fun a=>aw (co _ _ _) fun b=>aw (fw d _ _ _) fun r=>by split<;>exact au _
    ·exact au _
   ·refine aw (bS _) fun n=>aw ?_ fun s=>by obtain⟨r,_⟩:=s;cases r<;>exact au _
    rw[Std.Legacy.Range.forIn_eq_forIn_range'];refine eC _ (fun i s=>?_) _ _;exact aw (co _ _ _) fun a=>aw (co _ _ _) fun b=>aw (fw d _ _ _) fun r=>by split<;>exact au _
   ·exact au _
theorem qw(t:TypeId)(x y:Value)(hx:okD x=G6)(hy:okD y=G6):Blind P (Op.equal t x y):=eY _ _ _ _ hx hy
theorem lq(op:BinOp)(t:TypeId)(x y:Ie)(a b:Value):Blind P (eqGuard op t x y a b):=by
 unfold eqGuard
 repeat' first|exact au _|exact bb _|refine aw dZ fun _=>?_|refine aw (fw _ _ _ _) fun _=>?_|split
theorem sk(op:BinOp)(t:TypeId)(a b:Value)(h:zy op a b=G6):Blind P (binOp op t a b):=by
 simp only[zy,IE,Ik]at h;rcases h with(⟨ha,hb⟩|⟨he,hn⟩)|⟨⟨he,hx⟩,hy⟩
 ·cases a<;>simp only[okV,Je]at ha<;>cases b<;>simp only[okV,Je]at hb<;>cases op<;>simp only[binOp]<;>
   first
    |exact aD _
    |exact eI _ _ _
    |(split<;>first|exact aD _|exact(dp _ _ .i64 _ _).1|exact(dp _ _ .i64 _ _).2.1|exact(dp _ _ .i64 _ _).2.2.1|exact(dp _ .i64 .i64 _ _).2.2.2.1)
    |exact(dp _ _ _ _ _).2.2.2.2
    |exact aw (mg _ _ _ (.inl rfl)) fun _=>au _
 ·have key:Blind P (Op.equal t a b):=mg t a b (.inr hn);cases op<;>simp only[Cj,Je]at he
  all_goals
   unfold binOp;split<;>first
    |exact aw key fun _=>au _
    |exact aD _
    |(exfalso;simp[uD]at hn;done)
    |(exfalso;simp_all;done)
 ·have key:Blind P (Op.equal t a b):=qw t a b hx hy;cases op<;>simp only[Cj,Je]at he
  all_goals
   unfold binOp;split<;>first
    |exact aw key fun _=>au _
    |exact aD _
    |(exfalso;simp[okD,okV]at hx;done)
    |(exfalso;simp[okD,okV]at hy;done)
    |(split<;>first|exact aD _|exact(dp _ .i64 .i64 _ _).2.2.2.1)
    |exact eI _ _ _
    |(exfalso;simp_all;done)
theorem jI(m:Mode)(a:Addr):kh P (.load m a .pure:Sem Value):=by
 intro w v w' h;simp only[Sem.run]at h;split at h
 ·cases h;rfl
 ·split at h
  ·cases h;rfl
  ·cases h
theorem jD(a:Addr)(n:Nat):∀(i:Nat) (acc:Array Value),kh P (loadCellsFrom a i n acc):=by
 induction n with
 |zero=>intro i acc;exact(au _).reads
 |succ n ih=>intro i acc;unfold loadCellsFrom;exact fQ (jI _ _) fun _=>ih _ _
theorem o7(t:TypeId)(a:Addr):kh P (loadVar t a):=by
 unfold loadVar;refine fQ (iO t).reads fun b=>?_
 split
 ·exact fQ (bS _).reads fun _=>fQ (jD _ _ _ _) fun _=>(au _).reads
 ·exact jI _ _
theorem qx(t:TypeId)(a:Value):kh P (Instr.loadAt t a):=by
 unfold Instr.loadAt;exact fQ (eH _).reads fun _=>o7 _ _
def gm(P:Ia)(s:Sem Next):Prop:=∀w n w',s.run P w=.ok n w'->w'=w/\∃v,n=.value v
theorem dF {s:Sem Value}(h:Blind P s):Blind P (do pure (.value (<-s)):Sem Next)/\gm P (do pure (.value (<-s)):Sem Next):=by
 refine⟨aw h fun _=>au _,fun w n w' e=>?_⟩;rw[It]at e;obtain⟨a,w1,h1,h2⟩:=andThen_ok e;simp at h2;obtain⟨rfl,rfl⟩:=h2;exact⟨(h _ _ _ h1).1,a,rfl⟩
theorem Ed {s:Sem Value}(h:kh P s):gm P (do pure (.value (<-s)):Sem Next):=by
 intro w n w' e;rw[It]at e;obtain⟨a,w1,h1,h2⟩:=andThen_ok e;simp at h2;obtain⟨rfl,rfl⟩:=h2;exact⟨h _ _ _ h1,a,rfl⟩
def xS(P:Ia)(t:TypeId):Bool:=
 match P.underlying t with
 |some .bool|some (.int _)|some .string|some (.pointer _)|some (.slice _)|some (.map _ _)|some (.struct _)|some (.array _ _)=>G6
 |_=>G7
def qz(P:Ia)(t:TypeId):Bool:=
 match P.underlying t with
 |some .string|some (.slice _)=>G6
 |_=>G7
def Ck(P:Ia)(t:TypeId):Bool:=
 match P.underlying t with
 |some (.int _)=>G6
 |_=>G7
def mZ(P:Ia)(t:TypeId):Bool:=
 match P.underlying t with
 |some (.int _)|some .string=>G6
 |_=>G7
def lu(P:Ia)(s:TypeId)(f:Nat):Bool:=
 match P.underlying s with
 |some (.struct fields)=>(match fields[f]?with|some x=>(match P.info? x.type with|some i=>i.size !=0|none=>G7)|none=>G7)
 |_=>G7
theorem mh {α β:Type}{f:α->Sem β}(hf:∀a,Blind P (f a)):∀(l:List α),Blind P (l.mapM f)
 |[]=>by rw[List.mapM_nil];exact au _
 |a::l=>by rw[List.mapM_cons];exact aw (hf a) fun b=>aw (mh hf l) fun bs=>au _
theorem uE {α β:Type}{f:α->Sem β}(hf:∀a,Blind P (f a))(as:Array α):Blind P (as.mapM f):=by
 rw[Array.mapM_eq_mapM_toList,map_eq_pure_bind];exact aw (mh hf _) fun _=>au _
theorem sm(t:TypeId)(parts:Array (Nat×Value)):Blind P (Instr.build t parts):=by
 unfold Instr.build;refine aw (iL t) fun z=>aw (bc t) fun d=>?_
 split
 ·refine aw (uE (fun a=>aw (bS _) fun _=>au _) _) fun pl=>?_
  split
  ·exact au _
  ·exact aD _
 ·refine aw (bS _) fun s=>?_
  split
  ·exact au _
  ·exact aD _
 ·exact aD _
theorem lw(x:Value)(xt t:TypeId)(ok:Bool):Blind P (Instr.typeAssert x xt t ok):=by
 unfold Instr.typeAssert;have fails:∀(a b:Option TypeId) (m:String),Blind P (if ok=G6 then(do pure (Value.tuple #[<-zeroValue t,.bool G7]))else runtimePanic (.typeAssertion a b t m):Sem Value):=fun a b m=>by
  split
  ·exact aw (iL _) fun _=>au _
  ·exact cH _
 refine aw (bc t) fun d=>?_
 split
 ·exact fails _ _ _
 ·refine aw (eG _) fun _=>?_
  split
  ·exact au _
  ·exact fails _ _ _
 ·exact fails _ _ _
 ·split
  ·exact au _
  ·exact fails _ _ _
 ·exact aD _
def cls(P:Ia):Op->Nat
 | .move _| .assign _| .pick .. | .nilCheck _| .slice .. | .indexAddr .. | .index .. | .field .. | .extract .. | .makeInterface .. | .makeFunc .. | .build .. | .typeAssert .. =>0
 | .unOp .neg _ _| .unOp .not _ _=>0
 | .fieldAddr s _ f=>if lu P s f then 0 else 2
 | .binOp _ t _ _ _=>if xS P t then 0 else 2
 | .convert src dst _=>if mZ P dst&&Ck P src then 0 else 2
 | .call {callee:=.builtin .len,args:=_,argTypes}=>if qz P (argTypes.getD 0 0)then 0 else 2
 | .call {callee:=.builtin .min,args,argTypes:=_}| .call {callee:=.builtin .max,args,argTypes:=_}=>if args.size=2 then 0 else 2
 | .load .. =>1
 |_=>2
def okC:Value->Bool
 | .int .. =>G6
 |_=>G7
def gj(ρ:Ie->Value):Op->Bool
 | .binOp op _ x y _=>zy op (ρ x) (ρ y)
 | .convert _ _ x=>okC (ρ x)
 | .call {callee:=.builtin .min,args,argTypes:=_}| .call {callee:=.builtin .max,args,argTypes:=_}=>args.all fun x=>okV (ρ x)
 |_=>G6
def ig:Op->Bool
 | .binOp .. | .convert .. =>G6
 | .call {callee:=.builtin .min,args:=_,argTypes:=_}| .call {callee:=.builtin .max,args:=_,argTypes:=_}=>G6
 |_=>G7
theorem xT {ρ:Ie->Value}{op:Op}(h:ig op=G7):gj ρ op=true:=by
 unfold gj;split<;>first|rfl|(exfalso;simp[ig]at h;done)
theorem o8(src dst:TypeId)(x:Value)(hd:mZ P dst=G6)(hx:okC x=G6):Blind P (convert src dst x):=by
 unfold convert;refine aw (bc _) fun a=>dw fun b hb=>?_
 simp only[mZ,hb]at hd;cases x<;>simp only[okC,Je]at hx;cases b<;>simp only[Je]at hd
 ·unfold Conv.intToInt;exact au _
 ·unfold Conv.intToString;repeat' first|exact au _|exact aD _|split
theorem xU(ts:Array TypeId)(t:TypeId)(xs:Array Value)(h:qz P (ts.getD 0 0)=G6):Blind P (Builtin.len_ ts t xs):=by
 unfold Builtin.len_;split
 ·rename_i t0 x h0;have ht:ts.getD 0 0=t0:=by
   have:=(Prod.mk.injEq _ _ _ _).mp h0;simp[JG,this.1]
  rw[ht]at h;refine dw fun d hd=>?_
  simp only[qz,hd]at h;split<;>first|exact au _|exact aD _|(exfalso;simp at h;done)
 ·exact aD _
theorem uF(x y:Value)(h:okV x=G6):Blind P (Builtin.min2 x y):=by
 unfold Builtin.min2;split<;>first
  |exact au _
  |exact aD _
  |exact bb _
  |exact aw (eI _ _ _) fun _=>aw (fC _) fun _=>au _
  |(exfalso;simp[okV]at h;done)
theorem uG(x y:Value)(h:okV x=G6):Blind P (Builtin.max2 x y):=by
 unfold Builtin.max2;split<;>first
  |exact au _
  |exact aD _
  |exact bb _
  |exact aw (eI _ _ _) fun _=>aw (fC _) fun _=>au _
  |(exfalso;simp[okV]at h;done)
theorem pc(s:TypeId)(x:Value)(f:Nat)(h:lu P s f=G6):Blind P (Instr.fieldAt s x f):=by
 unfold Instr.fieldAt;refine dw fun d hd=>?_
 simp only[lu,hd]at h;split
 ·simp only at h;split
  ·rename_i fld hf;rw[hf]at h;simp only at h;refine aw (eH _) fun a=>aw ?_ fun _=>au _
   unfold fieldPlace;have key:∀w,(sizeOf fld.type).run P w=.ok ((P.info? fld.type).map (·.size)|>.getD 0) w:=by
    intro w;cases hi:P.info? fld.type with
    |none=>rw[hi]at h;simp at h
    |some i=>simp[sizeOf,typeInfo,program,Sem.run,hi,IG]
   intro w v w' e;rw[It,key]at e;cases hi:P.info? fld.type with
   |none=>rw[hi]at h;simp at h
   | some i =>
     rw[hi]at h e;simp at h;simp[IG,h]at e;obtain⟨rfl,rfl⟩:=e;refine⟨rfl,fun w2=>?_⟩;rw[It,key,hi];simp[IG,h]
  ·exact aD _
 ·exact aD _
theorem cW {ρ:Ie->Value}{dst:Option Tmp}{type:TypeId}{pos:String}{after:Array Edge}{guard:Option (Nat×Bool)}{b:Builtin}{args:Array Ie}{ts:Array TypeId}:
 execOp ρ ⟨dst,.call {callee:=.builtin b,args,argTypes:=ts},type,pos,after,guard⟩=builtin b ts type (args.map fun| .const _=>G6|_=>G7) (args.map ρ):=by
 simp only[execOp,resolve];rfl
theorem xV(t:TypeId)(v:Value)(name:String)(u:Unsupported)(x:Value):
 Blind P (do
  let p<-program
  let q<-nilAhead (p.types.size+Made.depth) t v name
  if q !=G5 G7 then unsupported u
  pure (.value x):Sem Next)/\
 gm P (do
  let p<-program
  let q<-nilAhead (p.types.size+Made.depth) t v name
  if q !=G5 G7 then unsupported u
  pure (.value x):Sem Next):=by
 have hb:Blind P (do
  let p<-program
  let q<-nilAhead (p.types.size+Made.depth) t v name
  if q !=G5 G7 then unsupported u
  pure (.value x):Sem Next):=aw dZ fun _=>aw (mY _ _ _ _) fun _=>by
  dsimp only;split
  ·exact aw (bb _) fun _=>au _
  ·exact au _
 refine⟨hb,fun w n w' e=>⟨(hb _ _ _ e).1,?_⟩⟩;rw[It]at e;obtain⟨p,w1,_,e⟩:=andThen_ok e;rw[It]at e;obtain⟨q,w2,_,e⟩:=andThen_ok e;dsimp only at e;split at e
 ·rw[It]at e;obtain⟨_,_,e,_⟩:=andThen_ok e;simp[unsupported]at e
 ·simp at e;exact⟨_,e.1.symm⟩
theorem Cl {o:Oper}{ρ:Ie->Value}(h:cls P o.op=0)(ho:gj ρ o.op=G6):Blind P (execOp ρ o)/\gm P (execOp ρ o):=by
 obtain⟨dst,op,type,pos,after,guard⟩:=o;dsimp only at h ho;have vpure:∀v:Value,Blind P (pure (.value v):Sem Next)/\gm P (pure (.value v):Sem Next):=fun v=>
  ⟨au _,fun w n w' e=>by simp at e;obtain⟨rfl,rfl⟩:=e;exact⟨rfl,v,rfl⟩⟩
 cases op
 case move x=>exact vpure _
 case assign x=>exact vpure _
 case pick c a b=>
  refine⟨aw (fC _) fun _=>au _,fun w n w' e=>?_⟩;simp only[execOp]at e;rw[It]at e;obtain⟨a1,w1,h1,h2⟩:=andThen_ok e;simp at h2;obtain⟨rfl,rfl⟩:=h2;exact⟨(fC _ _ _ _ h1).1,_,rfl⟩
 case nilCheck x=>
  have never:Blind P (runtimePanic .nilDeref:Sem Next)/\gm P (runtimePanic .nilDeref:Sem Next):=
   ⟨cH _,fun w n w' e=>absurd e (eA _ _ _ _)⟩
  simp only[execOp];split
  ·exact never
  ·exact never
  ·exact never
  ·split
   ·exact never
   ·exact xV _ _ _ _ _
   ·exact vpure _
  ·exact vpure _
 case fieldAddr s x f=>
  simp only[cls]at h;split at h
  ·rename_i hw;exact dF (pc _ _ _ hw)
  ·exact absurd h (by decide)
 case slice t x lo hi mx=>exact dF (o4 _ _ _ _ _)
 case indexAddr t x i=>exact dF (o5 _ _ _)
 case index t x i=>exact dF (sh _ _ _)
 case field t x f=>exact dF (sj _ _ _)
 case extract t i=>exact dF (o6 _ _)
 case makeInterface t x=>exact dF (jC _ _)
 case makeFunc f a c=>exact dF (au _)
 case typeAssert x a t ok=>exact dF (lw _ _ _ _)
 case build t ps=>exact dF (sm _ _)
 case unOp op t x=>
  cases op<;>simp only[cls]at h<;>first|exact absurd h (by decide)|skip
  ·exact dF (by unfold Op.unary;split<;>first|exact au _|exact bb _|exact aD _|exact(dp _ _ .i64 _ _).1|contradiction)
  ·exact dF (by unfold Op.unary;split<;>first|exact au _|exact bb _|exact aD _|contradiction)
 case binOp op t x y yt=>
  simp only[gj]at ho;exact dF (aw (lq _ _ _ _ _ _) fun _=>sk _ _ _ _ ho)
 case convert src dst x=>
  simp only[cls]at h;split at h
  ·rename_i hd;exact dF (o8 _ _ _ ((Bool.and_eq_true_iff.1 hd).1) ho)
  ·exact absurd h (by decide)
 case call c=>
  obtain⟨callee,args,ts⟩:=c;cases callee with
  |value f=>exact absurd h (by simp[cls])
  |invoke r m=>exact absurd h (by simp[cls])
  | builtin b =>
    rw[cW];cases b<;>simp only[cls]at h<;>first|exact absurd h (by decide)|skip
    case len=>
     split at h
     ·rename_i hl;exact dF (xU _ _ _ hl)
     ·exact absurd h (by decide)
    case max=>
     split at h
     ·rename_i hs;obtain⟨x,y,rfl⟩:∃x y,args= #[x,y]:=by
       obtain⟨l⟩:=args
       match l,hs with
       |[x,y],_=>exact⟨x,y,rfl⟩
      simp[gj]at ho;have hb:Blind P (Builtin.max_ ts type (Array.map ρ #[x,y])):=by
       have:=uG (P:=P) (ρ x) (ρ y) ho.1;simpa[Builtin.max_]using this
      exact dF hb
     ·exact absurd h (by decide)
    case min=>
     split at h
     ·rename_i hs;obtain⟨x,y,rfl⟩:∃x y,args= #[x,y]:=by
       obtain⟨l⟩:=args
       match l,hs with
       |[x,y],_=>exact⟨x,y,rfl⟩
      simp[gj]at ho;have hb:Blind P (Builtin.min_ ts type (Array.map ρ #[x,y])):=by
       have:=uF (P:=P) (ρ x) (ρ y) ho.1;simpa[Builtin.min_]using this
      exact dF hb
     ·exact absurd h (by decide)
 all_goals exact absurd h (by simp[cls])
theorem Cm {o:Oper}{ρ:Ie->Value}(h:cls P o.op=1):gm P (execOp ρ o):=by
 obtain⟨dst,op,type,pos,after,guard⟩:=o;dsimp only at h;cases op
 case load t a=>exact Ed (qx _ _)
 case fieldAddr=>simp only[cls]at h;split at h<;>exact absurd h (by decide)
 case binOp=>simp only[cls]at h;split at h<;>exact absurd h (by decide)
 case convert=>simp only[cls]at h;split at h<;>exact absurd h (by decide)
 case unOp op _ _=>cases op<;>simp only[cls]at h<;>exact absurd h (by decide)
 case call c=>
  obtain⟨callee,args,ts⟩:=c;cases callee with
  |value f=>exact absurd h (by simp[cls])
  |invoke r m=>exact absurd h (by simp[cls])
  |builtin b=>cases b<;>simp only[cls]at h<;>first|exact absurd h (by decide)|(split at h<;>exact absurd h (by decide))
 all_goals exact absurd h (by simp[cls])
end
section
variable {P:Ia} {ops:Array Oper} {Q:Exit->Act->World->Prop} {md:Region.Mode}
structure Shut(Q:Exit->Act->World->Prop):Prop where
 panic:∀c a w,¬Q (.panic c) a w
 room:∀a w,¬Q .outgrown a w
def qA(o:Oper)(a a':Act):Prop:=∃u,a'.tmps=(a.put o.dst u).tmps
theorem dg {i:Nat}{o:Oper}(hi:ops[i]? =G5 o){K:Act->World->Prop}{a:Act}{w:World}(h:wpOp P ops Q i K a w):wpOp P ops Q i (fun a' w'=>K a' w'/\qA o a a') a w:=by
 unfold wpOp at*
 simp only[hi]at*
 split
 ·rename_i hw;simp only[hw,if_true]at h;rcases h with h|h
  case inr=>exact .inr h
  refine .inl ?_;unfold Oper.wp at*
  generalize(execOp a.eval o).run P w=r at*
  cases r with
  | ok n w' =>
    cases n<;>simp only[Oper.upon]at h ⊢
    case value v=>exact⟨h,v,rfl⟩
    case skip=>exact⟨h,_,rfl⟩
    case defer d=>exact⟨h,undef,by cases o.dst<;>rfl⟩
    case enter f args=>exact Calls.mono h fun e w'' he=>by cases e<;>first|exact⟨he,_,rfl⟩|exact he
    case row row args=>exact Rows.mono h fun v w'' he=>⟨he,v,rfl⟩
  |halt x w'=>cases x<;>simp only[Oper.upon]at h ⊢;exact h
 ·rename_i hw;simp only[hw]at h;exact⟨h,undef,rfl⟩
theorem dO(hQ:Shut Q){i:Nat}{o:Oper}(hi:ops[i]? =G5 o){K:Act->World->Prop}{a:Act}{w:World}(h:wpOp P ops Q i K a w):∃a' w',K a' w':=by
 unfold wpOp at h;simp only[hi]at h;split at h
 ·rcases h with h|⟨_,a0,w0,h⟩
  ·unfold Oper.wp at h;generalize(execOp a.eval o).run P w=r at h;cases r with
   | ok n w' =>
     cases n<;>simp only[Oper.upon]at h
     case value v=>exact⟨_,_,h⟩
     case skip=>exact⟨_,_,h⟩
     case defer d=>exact⟨_,_,h⟩
     case enter f args=>
      obtain⟨e,w'',fr,he,_⟩:=h [];cases e with
      |returned v=>exact⟨_,_,he⟩
      |panicked c=>exact absurd he (hQ.panic _ _ _)
      |outgrown=>obtain⟨a0,w0,h0⟩:=he;exact absurd h0 (hQ.room _ _)
     case row row args=>
      obtain⟨v,w'',he,_⟩:=h default [];exact⟨_,_,he⟩
   |halt x w'=>cases x<;>simp only[Oper.upon]at h;exact absurd h (hQ.panic _ _ _)
  ·exact absurd h (hQ.room _ _)
 ·exact⟨_,_,h⟩
theorem jj {o:Oper}{i:Nat}(hQ:Shut Q)(hi:ops[i]? =G5 o)(hc:cls P o.op=0){a:Act}(ho:ID o (Iz ops a.tmps)=G6->gj a.eval o.op=G6){K:Act->World->Prop}{w:World}
 (h:wpOp P ops Q i K a w):∃v,Yields P ops o v a/\K (a.put o.dst v) w:=by
 unfold wpOp at h;simp only[hi]at h;by_cases hw:ID o (Iz ops a.tmps)=G6
 ·simp only[hw,if_true]at h;obtain⟨hb,hy⟩:=Cl hc (ho hw);rcases h with h|⟨_,a0,w0,h⟩
  ·unfold Oper.wp at h;cases hr:(execOp a.eval o).run P w with
   | ok n w' =>
     obtain⟨rfl,v,rfl⟩:=hy _ _ _ hr;rw[hr]at h;exact⟨v,.inl ⟨hw,(hb _ _ _ hr).2⟩,h⟩
   | halt x w' =>
     rw[hr]at h;cases x<;>simp only[Oper.upon]at h;exact absurd h (hQ.panic _ _ _)
  ·exact absurd h (hQ.room _ _)
 ·simp only[hw]at h;exact⟨undef,.inr ⟨by simpa using hw,rfl⟩,h⟩
theorem ii {i:Nat}{oi oj:Oper}{v:Value}(hQ:Shut Q)(hi:ops[i]? =G5 oi)(hsi:∀cs b,oi.op≠ .select cs b)
 (h1:∀d,oj.dst=G5 d->d∉oi.looksAt ops) (h2:∀d,oi.dst=G5 d->oj.dst≠G5 d) {K:Act->World->Prop} {a:Act} {w:World}
 (h:wpOp P ops Q i (fun a' w'=>K (a'.put oj.dst v) w') a w):wpOp P ops Q i K (a.put oj.dst v) w:=by
 unfold wpOp at*
 simp only[hi]at*
 rw[wanted_put oi a oj.dst v h1];split
 ·rename_i hw;simp only[hw,if_true]at h;rcases h with h|⟨_,a0,w0,h⟩
  case inr=>exact absurd h (hQ.room _ _)
  refine .inl ?_;unfold Oper.wp at*
  rw[execOp_put oi hsi a oj.dst v h1];generalize(execOp a.eval oi).run P w=r at*
  cases r with
  | ok n w' =>
    cases n<;>simp only[Oper.upon]at h ⊢
    case value u=>rw[<-Act.put_comm a u v h2];exact h
    case skip=>rw[<-Act.put_comm a undef v h2];exact h
    case defer d=>
     rw[Act.put_defers,<-Act.put_comm _ undef v h2];exact h
    case enter f args=>
     refine Calls.mono h fun e w'' he=>?_
     cases e with
     |returned u=>dsimp only at he ⊢;rw[<-Act.put_comm a u v h2];exact he
     |panicked c=>exact absurd he (hQ.panic _ _ _)
     |outgrown=>exact he
    case row row args=>exact Rows.mono h fun u w'' he=>by rw[<-Act.put_comm a u v h2];exact he
  | halt x w' =>
    cases x<;>simp only[Oper.upon]at h ⊢
    case panic u=>exact absurd h (hQ.panic _ _ _)
 ·rename_i hw;simp only[hw]at h;rw[<-Act.put_comm a undef v h2];exact h
def uH(P:Ia)(oi oj:Op):Bool:=cls P oi==0||cls P oj==0||(cls P oi==1&&cls P oj==1)
theorem ij {ρ ρ':Ie->Value}(op:Op)(h:∀x∈op.operands,ρ x=ρ' x):gj ρ op=gj ρ' op:=by
 cases op<;>simp only[Op.operands]at h<;>simp only[gj]
 case binOp=>simp_all
 case convert=>simp_all
 case call c=>
  obtain⟨callee,args,ts⟩:=c;cases callee with
  |value f=>rfl
  |invoke r m=>rfl
  | builtin b =>
    cases b<;>first|rfl|skip
    all_goals
     change(args.all fun x=>okV (ρ x))=(args.all fun x=>okV (ρ' x))
     rw[Bool.eq_iff_iff,JN,JN];constructor<;>intro H x hx
     ·rw[<-h x (by simp[Call.operands,hx])];exact H x hx
     ·rw[h x (by simp[Call.operands,hx])];exact H x hx
theorem mi {i j:Nat}{oi oj:Oper}{v:Value}(hQ:Shut Q)(hi:ops[i]? =G5 oi)(hj:ops[j]? =G5 oj)(hap:oi.apart ops oj=G6)
 (hsi:∀cs b,oi.op≠ .select cs b) (hsj:∀cs b,oj.op≠ .select cs b) {K:Act->World->Prop} {a:Act} {w:World} (hya:Yields P ops oj v a)
 (h:wpOp P ops Q i (wpOp P ops Q j K) a w):wpOp P ops Q j (wpOp P ops Q i K) a w:=by
 obtain⟨h1,h2,h3⟩:=Oper.apart_spec hap;refine hya.wpOp hj (ii hQ hi hsi h3 h2 ?_);refine IX (fun a' w' ⟨hk',ht'⟩=>?_) (dg hi h);have key:execOp a'.eval oj=execOp a.eval oj/\ID oj (Iz ops a'.tmps)=ID oj (Iz ops a.tmps):=by
  obtain⟨u,hu⟩:=ht';have e1:a'.eval=(a.put oi.dst u).eval:=by funext x;cases x<;>simp[Act.eval,hu]
  rw[e1,hu];exact⟨execOp_put oj hsj a oi.dst u h1,wanted_put oj a oi.dst u h1⟩
 have hy':Yields P ops oj v a':=hya.of_same key.1 key.2;unfold wpOp at hk';simp only[hj]at hk';rcases hy' with⟨hw,hv⟩|⟨hw,rfl⟩
 ·simp only[hw,if_true,Oper.wp,hv w',Oper.upon]at hk';exact hk'.elim id fun⟨_,a0,w0,hx⟩=>absurd hx (hQ.room _ _)
 ·simp only[hw]at hk';exact hk'
theorem Fx {i j:Nat}{oi oj:Oper}(hQ:Shut Q)(hi:ops[i]? =G5 oi)(hj:ops[j]? =G5 oj)(hap:oi.apart ops oj=G6)
 (hsi:∀cs b,oi.op≠ .select cs b) (hsj:∀cs b,oj.op≠ .select cs b) (hc:uH P oi.op oj.op=G6) {K:Act->World->Prop} {a:Act} {w:World}
 (hoi:cls P oi.op=0->ID oi (Iz ops a.tmps)=G6->gj a.eval oi.op=G6) (hoj:cls P oj.op=0->ID oj (Iz ops a.tmps)=G6->gj a.eval oj.op=G6)
 (h:wpOp P ops Q i (wpOp P ops Q j K) a w):wpOp P ops Q j (wpOp P ops Q i K) a w:=by
 obtain⟨h1,h2,h3⟩:=Oper.apart_spec hap;by_cases ci:cls P oi.op=0
 ·obtain⟨v,hy,hk⟩:=jj hQ hi ci (hoi ci) h;have:=wpOp_put hj hap hsi hsj (fun c a w x=>absurd x (hQ.panic _ _ _)) hy hk;exact IX (fun a' w' ⟨hy',hk'⟩=>hy'.wpOp hi hk') this
 ·by_cases cj:cls P oj.op=0
  ·obtain⟨a1,w1,hk,htu⟩:=dO hQ hi (dg hi h);have key:execOp a1.eval oj=execOp a.eval oj/\ID oj (Iz ops a1.tmps)=ID oj (Iz ops a.tmps)/\gj a1.eval oj.op=gj a.eval oj.op:=by
    obtain⟨u,hu⟩:=htu;have e1:a1.eval=(a.put oi.dst u).eval:=by funext x;cases x<;>simp[Act.eval,hu]
    rw[e1,hu];refine⟨execOp_put oj hsj a oi.dst u h1,wanted_put oj a oi.dst u h1,ij _ fun x hx=>Act.eval_put fun d hd hxd=>h1 d hd (by
     subst hxd;exact JD _ (List.mem_filterMap.2 ⟨.tmp d,by simpa using hx,rfl⟩))⟩
   obtain⟨v,hy,_⟩:=jj hQ hj cj (fun hw=>by rw[key.2.2];exact hoj cj (key.2.1▸hw)) hk;exact mi hQ hi hj hap hsi hsj (hy.of_same key.1.symm key.2.1.symm) h
  ·have ci1:cls P oi.op=1:=by simp[uH,ci,cj]at hc;exact hc.1
   have cj1:cls P oj.op=1:=by simp[uH,ci,cj]at hc;exact hc.2
   by_cases wi:ID oi (Iz ops a.tmps)=G6
   ·by_cases wj:ID oj (Iz ops a.tmps)=G6
    ·unfold wpOp at h;simp only[hi,wi,if_true]at h;rcases h with h|⟨_,a0,w0,h⟩
     case inr=>exact absurd h (hQ.room _ _)
     unfold Oper.wp at h;cases hr:(execOp a.eval oi).run P w with
     |halt x w'=>rw[hr]at h;cases x<;>simp only[Oper.upon]at h;exact absurd h (hQ.panic _ _ _)
     | ok n w' =>
       obtain⟨rfl,v,rfl⟩:=Cm ci1 _ _ _ hr;rw[hr]at h;simp only[Oper.upon,hj]at h;rw[wanted_put oj a oi.dst v h1,if_pos wj]at h;rcases h with h|⟨_,a0,w0,h⟩
       case inr=>exact absurd h (hQ.room _ _)
       rw[execOp_put oj hsj a oi.dst v h1]at h;cases hs:(execOp a.eval oj).run P w' with
       |halt x w2=>rw[hs]at h;cases x<;>dsimp only at h;exact absurd h (hQ.panic _ _ _)
       | ok n w2 =>
         obtain⟨rfl,u,rfl⟩:=Cm cj1 _ _ _ hs;rw[hs]at h;dsimp only at h;unfold wpOp;simp only[hj,hi,wj,if_true];refine .inl ?_;unfold Oper.wp;rw[hs];simp only[Oper.upon];rw[wanted_put oi a oj.dst u h3,if_pos wi];refine .inl ?_;rw[execOp_put oi hsi a oj.dst u h3,hr];dsimp only;rw[<-Act.put_comm a v u h2];exact h
    ·exact mi hQ hi hj hap hsi hsj (v:=undef) (.inr ⟨by simpa using wj,rfl⟩) h
   ·have hy:Yields P ops oi undef a:=.inr ⟨by simpa using wi,rfl⟩;have hk:wpOp P ops Q j K (a.put oi.dst undef) w:=by
     unfold wpOp at h;simp only[hi,wi]at h;exact h
    have:=wpOp_put hj hap hsi hsj (fun c a w x=>absurd x (hQ.panic _ _ _)) hy hk;exact IX (fun a' w' ⟨hy',hk'⟩=>hy'.wpOp hi hk') this
def fin(P:Ia)(ops:Array Oper)(a:Act):Bool:=
 ops.all fun o=>cls P o.op !=0|| !ID o (Iz ops a.tmps)||gj a.eval o.op
def ssa(md:Region.Mode)(ops:Array Oper):Bool:=
 (List.range ops.size).all fun k=>(List.range ops.size).all fun m=>
  match ops[k]?,ops[m]?with
  | some ok, G5 om => !ig ok.op || (match om.dst with
    |some d=> !(ok.looksAt ops).contains d||ok.after.any fun e=>Iw md e&&e.on==m
    |none=>G6)
  |_,_=>G6
theorem zz(h:ssa md ops=G6){k m:Nat}{ok om:Oper}(hk:ops[k]? =G5 ok)(hm:ops[m]? =G5 om)(hfl:ig ok.op=G6){d:Tmp}(hd:om.dst=G5 d)(hl:d∈ok.looksAt ops):
 ∃e∈ok.after,Iw md e=G6/\e.on=m:=by
 simp only[ssa,Ij,List.mem_range]at h;have:=h k (I6.1 hk).1 m (I6.1 hm).1;simp only[hk,hm,hd,hfl,Bool.not_true,Bool.false_or,IE,Bool.not_eq_true',List.contains_eq_mem,decide_eq_false_iff_not]at this;rcases this with h1|h1
 ·exact absurd hl h1
 ·obtain⟨e,he,hb⟩:=Array.any_eq_true'.1 h1;simp only[Ik,beq_iff_eq]at hb;exact⟨e,he,hb.1,hb.2⟩
def px(ops:Array Oper)(listed:Array Bool)(a a':Act):Prop:=
 ∀t,(∀m o,ops[m]? =G5 o->listed.getD m G6=G7->o.dst≠G5 t)->a'.tmps[t]? =a.tmps[t]?
theorem il {i:Nat}{oi:Oper}{listed:Array Bool}{a a1 a2:Act}(hi:ops[i]? =G5 oi)(hr:listed.getD i G6=G7)(ht:qA oi a a1)(h:px ops (listed.setIfInBounds i G6) a1 a2):px ops listed a a2:=by
 intro t hn;have h1:a2.tmps[t]? =a1.tmps[t]? :=h t fun m o hm hl=>hn m o hm (by
  by_cases hmi:i=m
  ·subst hmi;exact hr
  ·rw[getD_set_ne G6 hmi]at hl;exact hl)
 rw[h1];obtain⟨u,hu⟩:=ht;rw[hu];have:=hn i oi hi hr;unfold Act.put;cases hd:oi.dst with
 |none=>rfl
 | some d =>
   have hne:d≠t:=fun e=>this (by rw[hd,e])
   simp[Array.getElem?_setIfInBounds_ne hne]
theorem zA(hQ:Shut Q):∀(fuel:Nat) (listed:Array Bool) (a:Act) (w:World),wpAny P md ops Q fuel listed a w->∃a' w',Q .normal a' w'/\px ops listed a a':=by
 intro fuel
 induction fuel with
 |zero=>intro listed a w h;exact⟨a,w,h.2,fun _ _=>rfl⟩
 | succ fuel ih =>
   intro listed a w h;cases hr:I5 md ops listed with
   |nil=>exact⟨a,w,h.1 hr,fun _ _=>rfl⟩
   | cons i rest =>
     have hi:i∈I5 md ops listed:=by rw[hr];simp
     obtain⟨hun,oi,hoi,_⟩:=mem_ready.1 hi;obtain⟨a1,w1,hk,ht⟩:=dO hQ hoi (dg hoi (h.2 i hi));obtain⟨a2,w2,hq,hag⟩:=ih _ _ _ hk;exact⟨a2,w2,hq,il hoi hun ht hag⟩
theorem ku(hs:ssa md ops=G6){listed:Array Bool}{a a':Act}(hf:fin P ops a'=G6)(hag:px ops listed a a'){k:Nat}{o:Oper}(hk:ops[k]? =G5 o)(hr:k∈I5 md ops listed):
 cls P o.op=0->ID o (Iz ops a.tmps)=G6->gj a.eval o.op=true:=by
 intro hc hw;cases hfl:ig o.op with
 |false=>exact xT hfl
 |true=>
 obtain⟨_,o',ho',hall⟩:=mem_ready.1 hr;obtain rfl:o'=o:=by rw[hk]at ho';exact(Iq ho').symm
 have hsame:∀t∈o'.looksAt ops,a'.tmps[t]? =a.tmps[t]? :=fun t ht=>hag t fun m om hm hl hd=>by
  obtain⟨e,he,hb,rfl⟩:=zz hs hk hm hfl hd ht;have:=hall e he hb;rcases IT e.on listed.size with h'|h'
  ·simp[h']at this hl;rw[this]at hl;cases hl
  ·simp[Jh h']at this
 have hev:∀x∈o'.op.operands,a'.eval x=a.eval x:=fun x hx=>by
  cases x with
  | tmp t =>
    have:t∈o'.looksAt ops:=JD _ (List.mem_filterMap.2 ⟨.tmp t,by simpa using hx,rfl⟩);simp[Act.eval,JG,hsame t this]
  |_=>rfl
 have hy:ID o' (Iz ops a'.tmps)=ID o' (Iz ops a.tmps):=by
  unfold ID;cases hg:o'.guard with
  |none=>rfl
  | some gw =>
    obtain⟨g,want⟩:=gw;have:Iz ops a'.tmps g=Iz ops a.tmps g:=by
     unfold Iz;cases ht:(ops[g]?).bind (·.dst)with
     |none=>rfl
     | some t =>
       have:t∈o'.looksAt ops:=by simp[Oper.looksAt,hg,ht]
       simp[hsame t this]
    simp only[this]
 simp only[fin,JN]at hf;have:=hf o' (Array.mem_of_getElem? hk);simp only[hc,hy,hw,bne_self_eq_false,Bool.not_true,Bool.or_false,Bool.false_or]at this;rw[ij o'.op hev]at this;exact this
structure Inv(md:Region.Mode)(ops:Array Oper)(listed:Array Bool)(i:Nat)(D:Array Bool):Prop where
 un:∀j,D.getD j G7=G6->listed.getD j G6=G7
 edge:∀j,D.getD j G7=G6->∃o e,ops[j]? =G5 o/\e∈o.after/\Iw md e=G6/\(e.on=i\/D.getD e.on G7=G6)
theorem Inv.out {listed:Array Bool}{i:Nat}{D:Array Bool}(h:Inv md ops listed i D)(hi:listed.getD i G6=G7){j:Nat}(hj:j∈I5 md ops listed):D.getD j G7=false:=by
 cases hD:D.getD j false with
 |false=>rfl
 | true =>
   obtain⟨o,e,ho,he,hb,hon⟩:=h.edge j hD;obtain⟨_,o',ho',hall⟩:=mem_ready.1 hj;obtain rfl:o'=o:=by rw[ho]at ho';exact(Iq ho').symm
   have hl:=hall e he hb;have hx:listed.getD e.on G6=false:=by
    rcases hon with h1|h1
    ·rw[h1];exact hi
    ·exact h.un _ h1
   rcases IT e.on listed.size with h'|h'
   ·simp[h']at hx hl;rw[hx]at hl;cases hl
   ·simp[Jh h']at hl
theorem qB {i:Nat}{oi:Oper}{D:Array Bool}(hQ:Shut Q)(hfin:∀a w,Q .normal a w->fin P ops a=G6)(hs:ssa md ops=G6)(hi:ops[i]? =G5 oi)(hsel:∀(j:Nat) (o:Oper) cs b,ops[j]? =G5 o->o.op≠ .select cs b):
 ∀ (fuel : Nat) (listed : Array Bool) (a : Act) (w : World), Inv md ops listed i D →
   (∀j oj,ops[j]? =G5 oj->j≠i->listed.getD j G6=G7->D.getD j G7=G7->oi.apart ops oj=G6/\uH P oi.op oj.op=G6)->
   i∈I5 md ops listed->
   wpOp P ops Q i (wpAny P md ops Q fuel (listed.setIfInBounds i G6)) a w->wpAny P md ops Q (fuel+1) listed a w:=by
 intro fuel
 induction fuel with
 | zero =>
   intro listed a w _ _ hr H;refine⟨fun h=>(by rw[h]at hr;cases hr),fun j hj=>?_⟩;by_cases hji:j=i
   ·subst hji;exact H
   ·have h1:=ready_mono hj hji;obtain⟨a1,w1,h2⟩:=dO hQ hi H;rw[h2.1]at h1;cases h1
 | succ fuel ih =>
   intro listed a w hinv hfree hr H;refine⟨fun h=>(by rw[h]at hr;cases hr),fun j hj=>?_⟩;by_cases hji:j=i
   ·subst hji;exact H
   ·have hun:=(mem_ready.1 hr).1;obtain⟨hjun,oj,hoj,hall⟩:=mem_ready.1 hj;have hDj:=hinv.out hun hj;obtain⟨hap,hco⟩:=hfree j oj hoj hji hjun hDj;obtain⟨a1,w1,hk1,ht1⟩:=dO hQ hi (dg hi H);obtain⟨a2,w2,hq2,hag⟩:=zA hQ _ _ _ _ hk1;have hag':=il hi hun ht1 hag;have hf2:=hfin _ _ hq2;have H2:wpOp P ops Q i (wpOp P ops Q j (wpAny P md ops Q fuel ((listed.setIfInBounds i G6).setIfInBounds j G6))) a w:=
     IX (fun a' w' h=>h.2 j (ready_mono hj hji)) H
    have H3:=Fx hQ hi hoj hap (fun cs b=>hsel i oi cs b hi) (fun cs b=>hsel j oj cs b hoj) hco (ku hs hf2 hag' hi hr) (ku hs hf2 hag' hoj hj) H2;refine IX (fun a' w' h3=>ih (listed.setIfInBounds j G6) a' w' ⟨fun k hk=>?_,hinv.edge⟩ (fun k ok hk hki hkun hD=>?_) (ready_mono hr (Ne.symm hji)) ?_) H3
    ·have hne:j≠k:=fun e=>by rw[e,hk]at hDj;cases hDj
     rw[getD_set_ne G6 hne];exact hinv.un k hk
    ·refine hfree k ok hk hki ?_ hD;by_cases hjk:j=k
     ·subst hjk;exact hjun
     ·rw[getD_set_ne G6 hjk]at hkun;exact hkun
    ·rw[Array.setIfInBounds_comm _ _ hji];exact h3
def mj:List Nat->Nat
 |[]=>0
 |t::l=>mj l|||2^t
theorem gD(l:List Nat)(d:Nat):(mj l).testBit d=G6<->d∈l:=by
 induction l with
 |nil=>simp[mj]
 |cons t l ih=>simp only[mj,Js,JE,IE,ih,decide_eq_true_eq,List.mem_cons];exact⟨fun h=>h.elim .inr (fun h=>.inl h.symm),fun h=>h.elim (fun h=>.inr h.symm) .inl⟩
theorem jJ {a b d:Nat}(ha:a.testBit d=G6)(hb:b.testBit d=G6):(a&&&b)≠0:=fun h=>by
 have:(a&&&b).testBit d=true:=by simp[Nat.testBit_and,ha,hb]
 rw[h]at this;simp at this
theorem uI {a b:Nat}(h:(a&&&b)≠0):∃d,a.testBit d=G6/\b.testBit d=true:=by
 obtain⟨d,hd⟩:=Nat.exists_testBit_of_ne_zero h;rw[Nat.testBit_and,Ik]at hd;exact⟨d,hd⟩
structure pd where
 am:Nat
 lm:Nat
 dm:Nat
 c:Nat
 fl:Bool
def info(P:Ia)(md:Region.Mode)(ops:Array Oper)(o:Oper):pd:=
 {am:=mj ((o.after.toList.filter (Iw md ·)).map (·.on)),lm:=mj (o.looksAt ops),dm:=mj o.dst.toList,c:=cls P o.op,fl:=ig o.op}
def Fy(a b:Nat):Bool:=a==0||b==0||(a==1&&b==1)
def uJ(x y:pd):Bool:=(x.dm&&&y.lm)==0&&(x.dm&&&y.dm)==0&&(y.dm&&&x.lm)==0&&Fy x.c y.c
def sn(x:pd)(k:Nat):List pd->Nat->Nat->Bool
 |[],_,_=>G6
 |y::rest,j,D=>if(y.am&&&(D|||2^k))!=0 then sn x k rest (j+1) (D|||2^j)else uJ x y&&sn x k rest (j+1) D
def Cn:List pd->Nat->Bool
 |[],_=>G6
 |x::rest,k=>decide (x.am<2^k)&&sn x k rest (k+1) 0&&Cn rest (k+1)
def ssaI(l:List pd):Bool:=l.all fun x=> !x.fl||(go x l 0)
where
 go (x:pd):List pd->Nat->Bool
  |[],_=>G6
  |y::rest,m=>((y.dm&&&x.lm)==0||(x.am&&&2^m)!=0)&&go x rest (m+1)
def Ee(P:Ia)(ops:List Oper):Bool:=
 Region.noSelect ops.toArray&&ssaI (ops.map (info P .any ops.toArray))&&Cn (ops.map (info P .any ops.toArray)) 0
theorem am_spec {o:Oper}{m:Nat}:(info P md ops o).am.testBit m=G6<->∃e∈o.after,Iw md e=G6/\e.on=m:=by
 simp only[info,gD,IW,List.mem_filter,Array.mem_toList_iff];constructor
 ·rintro⟨e,⟨h1,h2⟩,h3⟩;exact⟨e,h1,h2,h3⟩
 ·rintro⟨e,h1,h2,h3⟩;exact⟨e,⟨h1,h2⟩,h3⟩
theorem lm_spec {o:Oper}{d:Nat}:(info P md ops o).lm.testBit d=G6<->d∈o.looksAt ops:=by simp only[info,gD]
theorem dm_spec {o:Oper}{d:Nat}:(info P md ops o).dm.testBit d=G6<->o.dst=G5 d:=by simp only[info,gD,Option.mem_toList]
theorem so {x y:Oper}(h:uJ (info P md ops x) (info P md ops y)=G6):x.apart ops y=G6/\uH P x.op y.op=true:=by
 simp only[uJ,Ik,beq_iff_eq]at h;obtain⟨⟨⟨h1,h2⟩,h3⟩,h4⟩:=h;refine⟨?_,h4⟩;unfold Oper.apart;rw[Ik];constructor
 ·split
  ·rename_i d hd;have hx:=(dm_spec (P:=P) (md:=md) (ops:=ops) (o:=x)).2 hd;rw[Ik];constructor
   ·rw[Bool.not_eq_true',List.contains_eq_mem,decide_eq_false_iff_not];exact fun hm=>jJ hx ((lm_spec (P:=P) (md:=md)).2 hm) h1
   ·rw[bne_iff_ne];exact fun hy=>jJ hx ((dm_spec (P:=P) (md:=md) (ops:=ops)).2 hy) h2
  ·rfl
 ·split
  ·rename_i d hd;have hy:=(dm_spec (P:=P) (md:=md) (ops:=ops) (o:=y)).2 hd;rw[Bool.not_eq_true',List.contains_eq_mem,decide_eq_false_iff_not];exact fun hm=>jJ hy ((lm_spec (P:=P) (md:=md)).2 hm) h3
  ·rfl
theorem qC {x:Oper}:∀(l:List Oper) (m0:Nat),ssaI.go (info P md ops x) (l.map (info P md ops)) m0=G6->∀j y,l[j]? =G5 y->∀d,y.dst=G5 d->d∈x.looksAt ops->∃e∈x.after,Iw md e=G6/\e.on=m0+j
 |[],_,_,j,y,hj,_,_,_=>by simp at hj
 | z :: l, m0, h, j, y, hj, d, hd, hl => by
   simp only[IY,ssaI.go,Ik,IE,beq_iff_eq,bne_iff_ne]at h;cases j with
   | zero =>
     simp at hj;subst hj;rcases h.1 with h1|h1
     ·exact absurd h1 (jJ (dm_spec.2 hd) (lm_spec.2 hl))
     ·obtain⟨m,hm1,hm2⟩:=uI h1;rw[JE,decide_eq_true_eq]at hm2;subst hm2;exact am_spec.1 hm1
   | succ j =>
     obtain⟨e,he,hb,hon⟩:=qC l (m0+1) h.2 j y (by simpa using hj) d hd hl;exact⟨e,he,hb,by omega⟩
theorem pB {l:List Oper}(h:ssaI (l.map (info P md l.toArray))=G6):ssa md l.toArray=true:=by
 simp only[ssaI,Ij]at h;simp only[ssa,Ij,List.mem_range];intro k hk m hm;have hk':k<l.length:=by simpa using hk
 have hm':m<l.length:=by simpa using hm
 simp only[List.getElem?_toArray,Jk hk',Jk hm'];cases hfl:ig (l[k]).op with
 |false=>rfl
 |true=>
 rw[Bool.not_true,Bool.false_or];split
 ·rename_i d hd;by_cases hl:d∈(l[k]).looksAt l.toArray
  ·have h1:=h (info P md l.toArray l[k]) (IW.2 ⟨_,List.getElem_mem hk',rfl⟩);rw[show(info P md l.toArray l[k]).fl=G6 from hfl,Bool.not_true,Bool.false_or]at h1;obtain⟨e,he,hb,hon⟩:=qC l 0 h1 m l[m] (Jk hm') d hd hl;rw[IE];right;exact Array.any_eq_true'.2 ⟨e,he,by simp[hb];omega⟩
  ·simp[hl]
 ·rfl
theorem jK {x:Oper}{k:Nat}:∀(l:List Oper) (j0 D:Nat),sn (info P md ops x) k (l.map (info P md ops)) j0 D=G6->
 (∀j,D.testBit j=G6->j<j0)->
 ∃ D' : Nat, (∀ j : Nat, D.testBit j = G6 → D'.testBit j = G6) ∧ (∀ j : Nat, D'.testBit j = G6 → D.testBit j = G6 ∨ j0 ≤ j) ∧
   (∀(j:Nat) (y:Oper),l[j]? =G5 y->D'.testBit (j0+j)=G6->∃e∈y.after,Iw md e=G6/\(e.on=k\/D'.testBit e.on=G6))/\
   (∀j:Nat,D'.testBit j=G6->D.testBit j=G6\/∃(i:Nat) (y:Oper),l[i]? =G5 y/\j=j0+i)/\
   (∀(j:Nat) (y:Oper),l[j]? =G5 y->D'.testBit (j0+j)=G7->x.apart ops y=G6/\uH P x.op y.op=G6)
 |[],j0,D,_,_=>⟨D,fun _ h=>h,fun _ h=>.inl h,fun j y h=>by simp at h,fun _ h=>.inl h,fun j y h=>by simp at h⟩
 | z :: l, j0, D, h, hD => by
   simp only[IY,sn]at h;split at h
   ·rename_i hne;rw[bne_iff_ne]at hne;obtain⟨m,hm1,hm2⟩:=uI hne;have hD2:∀j,(D|||2^j0).testBit j=G6->j<j0+1:=fun j hj=>by
     rw[Js,JE,IE,decide_eq_true_eq]at hj;rcases hj with hj|hj
     ·have:=hD j hj;omega
     ·omega
    obtain⟨D',g1,g2,g3,g4,g5⟩:=jK l (j0+1) (D|||2^j0) h hD2;have sub:∀j,D.testBit j=G6->D'.testBit j=true:=fun j hj=>g1 j (by simp[Js,hj])
    have hj0:D'.testBit j0=true:=g1 j0 (by simp[Js]);refine⟨D',sub,fun j hj=>?_,fun j y hy hj=>?_,fun j hj=>?_,fun j y hy hj=>?_⟩
    ·rcases g2 j hj with h1|h1
     ·rw[Js,JE,IE,decide_eq_true_eq]at h1;rcases h1 with h1|h1
      ·exact .inl h1
      ·exact .inr (by omega)
     ·exact .inr (by omega)
    ·cases j with
     | zero =>
       simp at hy;subst hy;obtain⟨e,he,hb,hon⟩:=am_spec.1 hm1;refine⟨e,he,hb,?_⟩;rw[Js,JE,IE,decide_eq_true_eq]at hm2;rcases hm2 with h2|h2
       ·exact .inr (sub _ (by rw[hon];exact h2))
       ·exact .inl (by omega)
     |succ j=>exact g3 j y (by simpa using hy) (by rw[<-hj];congr 1;omega)
    ·rcases g4 j hj with h1|⟨i,y,hy,rfl⟩
     ·rw[Js,JE,IE,decide_eq_true_eq]at h1;rcases h1 with h1|h1
      ·exact .inl h1
      ·exact .inr ⟨0,z,rfl,by omega⟩
     ·exact .inr ⟨i+1,y,by simpa using hy,by omega⟩
    ·cases j with
     |zero=>simp[hj0]at hj
     |succ j=>exact g5 j y (by simpa using hy) (by rw[<-hj];congr 1;omega)
   ·rename_i hne;rw[Ik]at h;have hp:=so h.1;obtain⟨D',g1,g2,g3,g4,g5⟩:=jK l (j0+1) D h.2 (fun j hj=>by have:=hD j hj;omega);have hnot:D'.testBit j0=false:=by
     cases hb:D'.testBit j0 with
     |false=>rfl
     | true =>
       rcases g2 j0 hb with h1|h1
       ·have:=hD _ h1;omega
       ·omega
    refine⟨D',g1,fun j hj=>?_,fun j y hy hj=>?_,fun j hj=>?_,fun j y hy hj=>?_⟩
    ·rcases g2 j hj with h1|h1
     ·exact .inl h1
     ·exact .inr (by omega)
    ·cases j with
     |zero=>simp[hnot]at hj
     |succ j=>exact g3 j y (by simpa using hy) (by rw[<-hj];congr 1;omega)
    ·rcases g4 j hj with h1|⟨i,y,hy,rfl⟩
     ·exact .inl h1
     ·exact .inr ⟨i+1,y,by simpa using hy,by omega⟩
    ·cases j with
     |zero=>simp at hy;subst hy;exact hp
     |succ j=>exact g5 j y (by simpa using hy) (by rw[<-hj];congr 1;omega)
structure Listed(n k:Nat)(listed:Array Bool):Prop where
 size:listed.size=n
 get:∀j (h:j<listed.size),listed[j]=decide (j<k)
theorem Listed.t {n k:Nat}{listed:Array Bool}(h:Listed n k listed)(j:Nat):listed.getD j G6=G7<->j<n/\k<=j:=by
 rcases IT j listed.size with h'|h'
 ·have:=h.get j h';have hs:=h.size;simp[h',this];omega
 ·have hs:=h.size;simp[Jh h'];omega
theorem Listed.f {n k:Nat}{listed:Array Bool}(h:Listed n k listed)(j:Nat):listed.getD j G7=G6<->j<n/\j<k:=by
 rcases IT j listed.size with h'|h'
 ·have:=h.get j h';have hs:=h.size;simp[h',this];omega
 ·have hs:=h.size;simp[Jh h'];omega
theorem Listed.next {n k:Nat}{listed:Array Bool}(h:Listed n k listed):Listed n (k+1) (listed.setIfInBounds k G6):=by
 refine⟨by simp[h.size],fun j hj=>?_⟩;have hj':j<listed.size:=by simpa using hj
 rw[Array.getElem_setIfInBounds hj'];split
 ·simp;omega
 ·rw[h.get j (by rw[Array.size_setIfInBounds]at hj;exact hj)];simp;omega
theorem nc {l0:List Oper}(hQ:Shut Q)(hfin:∀a w,Q .normal a w->fin P l0.toArray a=G6)(hs:ssa md l0.toArray=G6)(hsel:Region.noSelect l0.toArray=G6):
 ∀(l:List Oper) (k:Nat) (listed:Array Bool) (a:Act) (w:World),Listed l0.length k listed->l0.length=k+l.length->(∀j,l[j]? =l0[k+j]?)->
 Cn (l.map (info P md l0.toArray)) k=G6->wpList P l0.toArray Q l a w->wpAny P md l0.toArray Q l.length listed a w
 | [], k, listed, a, w, hL, hn, _, _, h => by
   refine⟨?_,h⟩;cases hr:I5 md l0.toArray listed with
   |nil=>rfl
   | cons i rest =>
     have hi:i∈I5 md l0.toArray listed:=by rw[hr];simp
     have:=(hL.t i).1 (mem_ready.1 hi).1;simp at hn;omega
 | o :: l, k, listed, a, w, hL, hn, hl, hB, h => by
   have h0:l0.toArray[k]? =G5 o:=by simpa using(hl 0).symm
   simp only[IY,Cn,Ik,decide_eq_true_eq]at hB;obtain⟨⟨ham,hw⟩,hB'⟩:=hB;have hkn:k<l0.length:=by simp at hn;omega
   have hr:k∈I5 md l0.toArray listed:=by
    refine mem_ready.2 ⟨(hL.t k).2 ⟨hkn,Nat.le_refl _⟩,o,h0,fun e he hb=>(hL.f _).2 ?_⟩;have hbit:(info P md l0.toArray o).am.testBit e.on=true:=am_spec.2 ⟨e,he,hb,rfl⟩;have:e.on<k:=by
     rcases IT e.on k with h'|h'
     ·exact h'
     ·have:(info P md l0.toArray o).am.testBit e.on=false:=Nat.testBit_lt_two_pow (Nat.lt_of_lt_of_le ham (Nat.pow_le_pow_right (by omega) h'));rw[this]at hbit;cases hbit
    omega
   obtain⟨D',_,_,g3,g4,g5⟩:=jK l (k+1) 0 hw (fun j hj=>by simp at hj);have hlj:∀j y,l0.toArray[j]? =G5 y->k<j->l[j-(k+1)]? =G5 y/\j=k+1+(j-(k+1)):=fun j y hy hj=>by
    refine⟨?_,by omega⟩;have:=hl (j-(k+1)+1);rw[show k+(j-(k+1)+1)=j by omega]at this;simp only[List.getElem?_cons_succ]at this;rw[this];simpa using hy
   let D:Array Bool:=Array.ofFn fun i:Fin l0.length=>D'.testBit i
   have hDt:∀j,D.getD j G7=G6->D'.testBit j=G6/\j<l0.length:=fun j hj=>by
    rcases IT j l0.length with h'|h'
    ·simp[D,h']at hj;exact⟨hj,h'⟩
    ·simp[D,h']at hj
   have hDf:∀j,j<l0.length->D.getD j G7=D'.testBit j:=fun j hj=>by simp[D,hj]
   have hge:∀j,D'.testBit j=G6->k+1<=j/\j<l0.length:=fun j hj=>by
    rcases g4 j hj with h1|⟨i,y,hy,rfl⟩
    ·simp at h1
    ·have:=(List.getElem?_eq_some_iff.1 hy).1;simp at hn;omega
   have hinv:Inv md l0.toArray listed k D:=by
    refine⟨fun j hj=>(hL.t j).2 ⟨(hDt j hj).2,by have:=hge j (hDt j hj).1;omega⟩,fun j hj=>?_⟩;obtain⟨h1,h2⟩:=hDt j hj;have h3:=hge j h1;have hy:l0.toArray[j]? =G5 l0[j]:=by simp[h2]
    obtain⟨hy',he⟩:=hlj j _ hy (by omega);obtain⟨e,he1,he2,he3⟩:=g3 _ _ hy' (by rw[<-he];exact h1);refine⟨l0[j],e,hy,he1,he2,he3.imp id fun h4=>?_⟩;rw[hDf _ (hge _ h4).2];exact h4
   refine qB hQ hfin hs h0 (Region.noSelect_spec hsel) l.length listed a w hinv (fun j oj hoj hne hun hD=>?_) hr ?_
   ·have hj:=(hL.t j).1 hun;obtain⟨hy',he⟩:=hlj j _ hoj (by omega);rw[hDf j hj.1]at hD;exact g5 _ _ hy' (by rw[<-he];exact hD)
   ·have hst:wpOp P l0.toArray Q k (wpList P l0.toArray Q l) a w:=by unfold wpOp;simp only[h0];exact h
    exact IX (fun a' w' h'=>nc hQ hfin hs hsel l (k+1) _ a' w' hL.next (by simp at hn;omega) (fun j=>by have:=hl (j+1);simpa[Nat.add_assoc,Nat.add_comm 1 j]using this) hB' h') hst
theorem uK {Q':Exit->Act->World->Prop}(hq:∀e a w,Q' e a w->Q e a w){i:Nat}{K:Act->World->Prop}{a:Act}{w:World}(h:wpOp P ops Q' i K a w):wpOp P ops Q i K a w:=by
 unfold wpOp at*
 split
 ·rename_i hn;rw[hn]at h;exact h
 ·rename_i o ho;simp only[ho]at h;split
  ·rename_i hw;simp only[hw,if_true]at h;rcases h with h|⟨h1,a0,w0,h2⟩
   ·refine .inl ?_;unfold Oper.wp at*
    generalize(execOp a.eval o).run P w=r at*
    cases r with
    | ok n w' =>
      cases n<;>simp only[Oper.upon]at h ⊢ <;>try exact h
      exact Calls.mono h fun e w'' he=>by
       cases e with
       |returned v=>exact he
       |panicked c=>exact hq _ _ _ he
       |outgrown=>obtain⟨a0,w0,h0⟩:=he;exact⟨a0,w0,hq _ _ _ h0⟩
    |halt x w'=>cases x<;>simp only[Oper.upon]at h ⊢;exact hq _ _ _ h
   ·exact .inr ⟨h1,a0,w0,hq _ _ _ h2⟩
  ·rename_i hw;simp only[hw]at h;exact h
theorem iP {Q':Exit->Act->World->Prop}(hq:∀e a w,Q' e a w->Q e a w):∀(fuel:Nat) (listed:Array Bool) (a:Act) (w:World),wpAny P md ops Q' fuel listed a w->wpAny P md ops Q fuel listed a w
 |0,_,_,_,h=>⟨h.1,hq _ _ _ h.2⟩
 |fuel+1,_,_,_,h=>⟨fun h0=>hq _ _ _ (h.1 h0),fun i hi=>IX (fun _ _=>iP hq fuel _ _ _) (uK hq (h.2 i hi))⟩
theorem pg {id:Nat}{a:Act}{w:World}{l:List Oper}(hm:P.follows .mixedOrders=G6)(hB:Ee P l=G6)
 (h:wpList P l.toArray (Exit.then (fun a w=>fin P l.toArray a=G6/\Q .normal a w) (fun _ _ _=>False)) l a w.drew):(Code.region id l.toArray G6).wp P Q a w:=by
 simp only[Ee,Ik]at hB;refine wp_region_any hm (iP (Q':=Exit.then (fun a w=>fin P l.toArray a=G6/\Q .normal a w) (fun _ _ _=>False)) (fun e a w hx=>?_) _ _ _ _ ?_)
 ·cases e<;>first|exact hx.2|exact hx.elim
 ·have:=nc (P:=P) (md:=.any) (l0:=l) (Q:=Exit.then (fun a w=>fin P l.toArray a=G6/\Q .normal a w) (fun _ _ _=>False)) ⟨fun c a w hx=>hx,fun a w hx=>hx⟩ (fun a w hx=>hx.1) (pB hB.1.2) hB.1.1 l 0 (Array.replicate l.length G7) a w.drew
   ⟨by simp,fun j hj=>by simp⟩ (by simp) (by simp) hB.2 h
  simpa using this
theorem Gp {a:Act}{R:Prop}(h:fin P ops a=G6)(k:R):fin P ops a=G6/\R:=⟨h,k⟩
end
end Go.Lex
