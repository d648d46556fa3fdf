/- Walks and plain facts for the law on type variables, for all values and types that the heap holds (texts LexK). -/
import Derived.Test.YtfpahmeploondaaGreatDoorR01
set_option linter.unusedVariables false
set_option linter.unusedSimpArgs false
set_option maxHeartbeats 64000000
open Option renaming none -> G0, some -> G5
open Bool renaming true -> G6, false -> G7
open Array renaming getElem?_eq_some_iff -> I6, getElem?_eq_none -> Jh
open List renaming mem_append_left -> JD
open Nat renaming testBit_two_pow -> JE, lt_of_lt_of_le -> Ig, testBit_or -> Js, lt_or_ge -> IT, le_refl -> G8
open Bool renaming and_eq_true -> Ik, or_eq_true -> IE
open Go.Result renaming andThen -> IG
open Go.Region renaming wanted -> ID, binds -> Iw, ready -> I5
open Go.Sem renaming run_bind -> It
open Go.World renaming cell? -> Ic
open Go renaming wpOp_mono -> IX, Program -> Ia, yielded -> Iz
namespace Go.LexK
open Go Go.Lex
def Ext(Kp:Nat->Prop)(w w':World):Prop:=w.heap.size<=w'.heap.size/\∀b,b<w.heap.size->Kp b->w'.heap[b]? =w.heap[b]?
theorem Ext.refl {Kp:Nat->Prop}(w:World):Ext Kp w w:=⟨G8 _,fun _ _ _=>rfl⟩
theorem Ext.size {Kp:Nat->Prop}{w w':World}(h:Ext Kp w w'):w.heap.size<=w'.heap.size:=h.1
theorem Ext.trans {Kp:Nat->Prop}{a b c:World}(h:Ext Kp a b)(k:Ext Kp b c):Ext Kp a c:=⟨Nat.le_trans h.1 k.1,fun i hi hk=>(k.2 i (Ig hi h.1) hk).trans (h.2 i hi hk)⟩
theorem Ext.alloc {Kp:Nat->Prop}(w:World)(o:Obj):Ext Kp w (w.alloc o):=⟨by show w.heap.size<=(w.heap.push o).size;simp,fun b hb _=>by
 show(w.heap.push o)[b]? =_;rw[Array.getElem?_push,if_neg (by omega)]⟩
theorem Ext.of_below {Kp:Nat->Prop}{w w':World}{B:Nat}(h:RowKit.Below B w w')(hB:w.heap.size<=B):Ext Kp w w':=⟨h.size,fun b hb _=>h.block b (by omega)⟩
theorem Ext.cell {Kp:Nat->Prop}{w w':World}(h:Ext Kp w w'){a:Addr}{v:Value}(hk:Kp a.block)(hv:w.cell? a=G5 v):∀x:Addr,x.block=a.block->w'.cell? x=w.cell? x:=by
 intro x hx;have hlt:a.block<w.heap.size:=by
  rcases IT a.block w.heap.size with h'|h'
  ·exact h'
  ·simp[Ic,Jh h']at hv
 unfold Ic;rw[hx,h.2 _ hlt hk]
section
variable {Kp:Nat->Prop} {P:Ia} {ops:Array Oper} {Q:Exit->Act->World->Prop} {md:Region.Mode}
def cD(P:Ia)(o:Op):Nat:=
 if cls P o=2 then(match o with
  | .call {callee:=.value _,args:=_,argTypes:=_}| .call {callee:=.builtin .append,args:=_,argTypes:=_}| .alloc _| .box .. | .buildSlice .. | .makeSlice .. | .makeMap .. =>2
  |_=>3)
 else cls P o
theorem iQ {o:Op}(h:cD P o=0):cls P o=0:=by
 unfold cD at h;split at h
 ·split at h<;>cases h
 ·exact h
theorem lx {o:Op}(h:cD P o=1):cls P o=1:=by
 unfold cD at h;split at h
 ·split at h<;>cases h
 ·exact h
def fD(Kp:Nat->Prop)(w0:World)(ρ:Operand->Value):Op->Prop
 | .load _ x=>∃b o v,ρ x=.pointer (G5 ⟨b,o,G0⟩)/\Kp b/\w0.cell? ⟨b,o,G0⟩=G5 v
 |_=>True
def YC(Kp:Nat->Prop)(P:Ia)(ops:Array Oper)(w0:World)(o:Oper)(v:Value)(a:Act):Prop:=
 (ID o (Iz ops a.tmps)=G6/\∀w,Ext Kp w0 w->(execOp a.eval o).run P w=.ok (.value v) w)\/(ID o (Iz ops a.tmps)=G7/\v=undef)
theorem YC.of_yields {w0:World}{o:Oper}{v:Value}{a:Act}(h:Yields P ops o v a):YC Kp P ops w0 o v a:=by
 rcases h with⟨h1,h2⟩|h
 ·exact .inl ⟨h1,fun w _=>h2 w⟩
 ·exact .inr h
theorem YC.of_same {w0:World}{o:Oper}{v:Value}{a a':Act}(hy:YC Kp P ops w0 o v a)(he:execOp a'.eval o=execOp a.eval o)(hw:ID o (Iz ops a'.tmps)=ID o (Iz ops a.tmps)):YC Kp P ops w0 o v a':=by
 unfold YC at*
 rw[he,hw];exact hy
theorem zB {t:TypeId}{x:Value}{w0:World}{b o:Nat}{u:Value}(hx:x=.pointer (G5 ⟨b,o,G0⟩))(hkp:Kp b)(hu:w0.cell? ⟨b,o,G0⟩=G5 u){w1:World}(h1:Ext Kp w0 w1){v:Value}{w':World}(hr:(Instr.loadAt t x).run P w1=.ok v w'):
 ∀w,Ext Kp w0 w->(Instr.loadAt t x).run P w=.ok v w:=by
 intro w hw;subst hx;have hc:∀i,w.cell? ((⟨b,o,G0⟩:Addr).add i)=w1.cell? ((⟨b,o,G0⟩:Addr).add i):=fun i=>by
  have hb:((⟨b,o,G0⟩:Addr).add i).block=b:=by unfold Addr.add;split<;>rfl
  rw[hw.cell hkp hu _ hb,h1.cell hkp hu _ hb]
 have hc0:w.cell? ⟨b,o,G0⟩=w1.cell? ⟨b,o,G0⟩:=by rw[hw.cell hkp hu _ rfl,h1.cell hkp hu _ rfl]
 have hs0:w1.cell? ⟨b,o,G0⟩=G5 u:=by rw[h1.cell hkp hu _ rfl,hu]
 have hnf:∀(w2:World),Ext Kp w0 w2->∀(y:Addr) (m:Bool),y.block=b->w2.cell? y=G0->∃e,World.farLoad P w2 y m=.error e:=by
  intro w2 h2 y m hy hn;have hlt:b<w0.heap.size:=by
   rcases IT b w0.heap.size with h'|h'
   ·exact h'
   ·simp[Ic,Jh h']at hu
  unfold World.farLoad;rw[hy,h2.2 b hlt hkp];unfold Ic at hu;cases hb:w0.heap[b]?with
  |none=>simp[hb]at hu
  | some ob =>
    cases ob<;>simp[hb]at hu;exact⟨_,rfl⟩
 have cellsRun:∀(n i:Nat) (acc:Array Value) (r:Array Value) (wr:World),(loadCellsFrom ⟨b,o,G0⟩ i n acc).run P w1=.ok r wr->(loadCellsFrom ⟨b,o,G0⟩ i n acc).run P w=.ok r w:=by
  intro n
  induction n with
  |zero=>intro i acc r wr h;simp[loadCellsFrom]at h ⊢;exact h.1
  | succ n ih =>
    intro i acc r wr h;unfold loadCellsFrom at h ⊢;rw[It]at h ⊢;obtain⟨z,w2,hz,hk⟩:=andThen_ok h;have hw2:w2=w1:=jI _ _ _ _ _ hz;subst hw2;have hb:((⟨b,o,G0⟩:Addr).add i).block=b:=by unfold Addr.add;split<;>rfl
    simp only[load,Sem.run]at hz;cases hcy:w2.cell? ((⟨b,o,G0⟩:Addr).add i)with
    | none =>
      rw[hcy]at hz;obtain⟨e,he⟩:=hnf w2 h1 _ (Mode.plain==Mode.atomic) hb hcy;rw[he]at hz;simp at hz
    | some z' =>
      rw[hcy]at hz;cases hz;simp only[load,Sem.run,(hc i).trans hcy,IG];exact ih _ _ _ _ hk
 unfold Instr.loadAt Instr.sureAddr loadVar at hr ⊢;rw[It]at hr ⊢;simp only[Sem.run_pure,IG]at hr ⊢;rw[It]at hr ⊢;obtain⟨ag,w2,hag,hk0⟩:=andThen_ok hr;obtain⟨e1,hag'⟩:=iO t _ _ _ hag;subst e1;clear hr;rw[hag' w];simp only[IG];split at hk0
 ·rename_i hagt;rw[if_pos hagt];rw[It]at hk0 ⊢;obtain⟨n,w3,hn,hk1⟩:=andThen_ok hk0;obtain⟨e2,hn'⟩:=bS t _ _ _ hn;subst e2;clear hk0;rw[hn' w];simp only[IG];rw[It]at hk1 ⊢;obtain⟨cs,w4,hcs,hk2⟩:=andThen_ok hk1;rw[show(loadCells ⟨b,o,G0⟩ n).run P w=.ok cs w from cellsRun _ _ _ _ _ hcs];simp only[IG];simp at hk2 ⊢;exact hk2.1
 ·rename_i hagt;rw[if_neg hagt];simp only[load,Sem.run,hc0,hs0]at hk0 ⊢;cases hk0;rfl
def gp(Kp:Nat->Prop)(P:Ia)(ops:Array Oper)(Q:Exit->Act->World->Prop)(i:Nat)(K:Act->World->Prop)(a:Act)(w:World):Prop:=
 wpOp P ops Q i (fun a' w'=>(((ops[i]?).map fun o=>cD P o.op)=G5 2->Ext Kp w w')/\K a' w') a w
theorem uL {i:Nat}{K K':Act->World->Prop}{a:Act}{w:World}(h:∀a w,K a w->K' a w)(hh:gp Kp P ops Q i K a w):gp Kp P ops Q i K' a w:=
 IX (fun _ _ x=>⟨x.1,h _ _ x.2⟩) hh
theorem jL {i:Nat}{K:Act->World->Prop}{a:Act}{w:World}(hh:gp Kp P ops Q i K a w):wpOp P ops Q i K a w:=IX (fun _ _ x=>x.2) hh
def jM(Kp:Nat->Prop)(P:Ia)(md:Region.Mode)(ops:Array Oper)(Q:Exit->Act->World->Prop):Nat->Array Bool->Act->World->Prop
 |0,listed,a,w=>I5 md ops listed=[]/\Q .normal a w
 | fuel + 1, listed, a, w =>
   (I5 md ops listed=[]->Q .normal a w)/\
   ∀i∈I5 md ops listed,gp Kp P ops Q i (jM Kp P md ops Q fuel (listed.setIfInBounds i G6)) a w
theorem jN:∀(fuel:Nat) (listed:Array Bool) (a:Act) (w:World),jM Kp P md ops Q fuel listed a w->wpAny P md ops Q fuel listed a w
 |0,_,_,_,h=>h
 |fuel+1,_,_,_,h=>⟨h.1,fun i hi=>IX (fun _ _ x=>jN fuel _ _ _ x) (jL (h.2 i hi))⟩
theorem im(hQ:Shut Q){i:Nat}{o:Oper}(hi:ops[i]? =G5 o){K:Act->World->Prop}{a:Act}{w:World}(hy:ID o (Iz ops a.tmps)=G6->gm P (execOp a.eval o))(h:wpOp P ops Q i K a w):
 wpOp P ops Q i (fun a' w'=>w'=w/\K a' w') a w:=by
 unfold wpOp at*
 simp only[hi]at*
 split
 ·rename_i hw;simp only[hw,if_true]at h;rcases h with h|⟨_,a0,w0,h⟩
  case inr=>exact absurd h (hQ.room _ _)
  refine .inl ?_;unfold Oper.wp at*
  cases hr:(execOp a.eval o).run P w with
  | ok n w' =>
    obtain⟨rfl,v,rfl⟩:=hy hw _ _ _ hr;rw[hr]at h;exact⟨by first|rfl|trivial,h⟩
  | halt x w' =>
    rw[hr]at h;cases x<;>simp only[Oper.upon]at h;exact absurd h (hQ.panic _ _ _)
 ·rename_i hw;simp only[hw]at h;exact⟨by first|rfl|trivial,h⟩
theorem xW {j:Nat}{oi oj:Oper}{v:Value}{Y:Act->Prop}(hY:∀a a',execOp a'.eval oi=execOp a.eval oi->ID oi (Iz ops a'.tmps)=ID oi (Iz ops a.tmps)->Y a->Y a')(hQ:Shut Q)(hj:ops[j]? =G5 oj)(hap:oi.apart ops oj=G6)
 (hsi:∀cs b,oi.op≠ .select cs b) (hsj:∀cs b,oj.op≠ .select cs b) {K:Act->World->Prop} {a:Act} {w:World} (hy:Y a) (h:wpOp P ops Q j K (a.put oi.dst v) w):
 wpOp P ops Q j (fun a' w'=>Y a'/\K (a'.put oi.dst v) w') a w:=by
 obtain⟨h1,h2,h3⟩:=Oper.apart_spec hap;have keep:∀(a:Act),Y a->∀u,Y (a.put oj.dst u):=fun a hy u=>hY _ _ (execOp_put oi hsi a oj.dst u h3) (wanted_put oi a oj.dst u h3) hy
 have keepD:∀d,Y {a with defers:=d::a.defers}:=fun d=>hY a {a with defers:=d::a.defers} rfl rfl hy
 unfold wpOp at*
 simp only[hj]at*
 rw[wanted_put oj a oi.dst v h1]at h;split
 ·rename_i hw;simp only[hw,if_true]at h;rcases h with h|⟨_,a0,w0,h⟩
  case inr=>exact absurd h (hQ.room _ _)
  refine .inl ?_;unfold Oper.wp at*
  rw[execOp_put oj hsj a oi.dst v h1]at h;generalize(execOp a.eval oj).run P w=r at*
  cases r with
  | ok n w' =>
    cases n<;>simp only[Oper.upon]at h ⊢
    case value u=>exact⟨keep a hy u,by rw[<-Act.put_comm a v u h2];exact h⟩
    case skip=>exact⟨keep a hy _,by rw[<-Act.put_comm a v undef h2];exact h⟩
    case defer d=>
     refine⟨keep _ (keepD d) _,?_⟩;rw[<-Act.put_comm _ v undef h2,<-Act.put_defers];exact h
    case enter f args=>
     refine Calls.mono h fun e w'' he=>?_
     cases e with
     |returned u=>exact⟨keep a hy u,by rw[<-Act.put_comm a v u h2];exact he⟩
     |panicked c=>exact absurd he (hQ.panic _ _ _)
     |outgrown=>exact he
    case row row args=>exact Rows.mono h fun u w'' he=>⟨keep a hy u,by rw[<-Act.put_comm a v u h2];exact he⟩
  | halt x w' =>
    cases x<;>simp only[Oper.upon]at h ⊢
    case panic u=>exact absurd h (hQ.panic _ _ _)
 ·rename_i hw;simp only[hw]at h;exact⟨keep a hy _,by rw[<-Act.put_comm a v undef h2];exact h⟩
theorem YC.wpOp {w0:World}{i:Nat}{o:Oper}{v:Value}{a:Act}(hi:ops[i]? =G5 o)(hy:YC Kp P ops w0 o v a){K:Act->World->Prop}{w:World}(hw:Ext Kp w0 w)(h:K (a.put o.dst v) w):wpOp P ops Q i K a w:=by
 unfold Go.wpOp;simp only[hi];rcases hy with⟨hwa,hv⟩|⟨hwa,rfl⟩
 ·simp only[hwa,if_true,Oper.wp,hv w hw,Oper.upon];exact .inl h
 ·simp only[hwa,Bool.false_eq_true,if_false];exact h
theorem YC.out(hQ:Shut Q){w0:World}{i:Nat}{o:Oper}{v:Value}{a:Act}(hi:ops[i]? =G5 o)(hy:YC Kp P ops w0 o v a){K:Act->World->Prop}{w:World}(hw:Ext Kp w0 w)(h:Go.wpOp P ops Q i K a w):K (a.put o.dst v) w:=by
 unfold Go.wpOp at h;simp only[hi]at h;rcases hy with⟨hwa,hv⟩|⟨hwa,rfl⟩
 ·simp only[hwa,if_true,Oper.wp,hv w hw,Oper.upon]at h;exact h.elim id fun⟨_,a0,w0,hx⟩=>absurd hx (hQ.room _ _)
 ·simp only[hwa]at h;exact h
theorem xX {op:Op}(h:cls P op=1):∃t x,op=.load t x:=by
 cases op
 case load t x=>exact⟨t,x,rfl⟩
 case fieldAddr=>simp only[cls]at h;split at h<;>exact absurd h (by decide)
 case binOp=>simp only[cls]at h;split at h<;>exact absurd h (by decide)
 case convert=>simp only[cls]at h;split at h<;>exact absurd h (by decide)
 case unOp op _ _=>cases op<;>simp only[cls]at h<;>exact absurd h (by decide)
 case call c=>
  obtain⟨callee,args,ts⟩:=c;cases callee with
  |value f=>exact absurd h (by simp[cls])
  |invoke r m=>exact absurd h (by simp[cls])
  |builtin b=>cases b<;>simp only[cls]at h<;>first|exact absurd h (by decide)|(split at h<;>exact absurd h (by decide))
 all_goals exact absurd h (by simp[cls])
theorem wb(hQ:Shut Q){w0:World}{i:Nat}{o:Oper}(hi:ops[i]? =G5 o)(hc:cls P o.op=1){a:Act}(hf:ID o (Iz ops a.tmps)=G6->fD Kp w0 a.eval o.op){K:Act->World->Prop}{w:World}(hw:Ext Kp w0 w)(h:Go.wpOp P ops Q i K a w):
 ∃v,YC Kp P ops w0 o v a:=by
 by_cases hwa:ID o (Iz ops a.tmps)=G6
 ·obtain⟨dst,op,type,pos,after,guard⟩:=o;cases op with
  | load t x =>
    obtain⟨b,of,u,hx,hu⟩:=hf hwa;unfold Go.wpOp at h;simp only[hi,hwa,if_true]at h;rcases h with h|⟨_,a0,w1,h⟩
    case inr=>exact absurd h (hQ.room _ _)
    unfold Oper.wp at h;have hex:execOp a.eval ⟨dst,.load t x,type,pos,after,guard⟩=(do pure (.value (<-Instr.loadAt t (a.eval x))):Sem Next):=rfl;rw[hex,It]at h;cases hr:(Instr.loadAt t (a.eval x)).run P w with
    | ok v w' =>
      refine⟨v,.inl ⟨hwa,fun w2 h2=>?_⟩⟩;rw[hex,It,zB hx hu.1 hu.2 hw hr w2 h2];simp[IG]
    | halt y w' =>
      rw[hr]at h;simp only[IG]at h;cases y<;>simp only[Oper.upon]at h;exact absurd h (hQ.panic _ _ _)
  |_=>exact absurd (xX hc) (by simp)
 ·exact⟨undef,.inr ⟨by simpa using hwa,rfl⟩⟩
def sq(P:Ia)(oi oj:Op)(lfi lfj:Bool):Bool:=
 let ci:=cD P oi;let cj:=cD P oj
 ci==0||cj==0||(ci==1&&cj==1)||(ci==1&&lfi&&cj==2)||(ci==2&&cj==1&&lfj)
theorem Fz {i j:Nat}{oi oj:Oper}{lfi lfj:Bool}{w0:World}(hQ:Shut Q)(hi:ops[i]? =G5 oi)(hj:ops[j]? =G5 oj)(hap:oi.apart ops oj=G6)
 (hsi:∀cs b,oi.op≠ .select cs b) (hsj:∀cs b,oj.op≠ .select cs b) (hc:sq P oi.op oj.op lfi lfj=G6) {K:Act->World->Prop} {a:Act} {w:World}
 (hoi:cls P oi.op=0->ID oi (Iz ops a.tmps)=G6->gj a.eval oi.op=G6) (hoj:cls P oj.op=0->ID oj (Iz ops a.tmps)=G6->gj a.eval oj.op=G6)
 (hfi:lfi=G6->Ext Kp w0 w/\(ID oi (Iz ops a.tmps)=G6->fD Kp w0 a.eval oi.op)) (hfj:lfj=G6->Ext Kp w0 w/\(ID oj (Iz ops a.tmps)=G6->fD Kp w0 a.eval oj.op))
 (h:gp Kp P ops Q i (gp Kp P ops Q j K) a w):gp Kp P ops Q j (gp Kp P ops Q i K) a w:=by
 obtain⟨h1,h2,h3⟩:=Oper.apart_spec hap;have ei:((ops[i]?).map fun o=>cD P o.op)=G5 (cD P oi.op):=by rw[hi];rfl
 have ej:((ops[j]?).map fun o=>cD P o.op)=G5 (cD P oj.op):=by rw[hj];rfl
 by_cases ci:cD P oi.op=0
 ·obtain⟨v,hy,hk⟩:=jj hQ hi (iQ ci) (hoi (iQ ci)) h;have:=wpOp_put hj hap hsi hsj (fun c a w x=>absurd x (hQ.panic _ _ _)) hy hk.2;exact IX (fun a' w' ⟨hy',hk'⟩=>⟨hk'.1,hy'.wpOp hi ⟨(fun he=>by rw[ei,ci]at he;cases he),hk'.2⟩⟩) this
 by_cases cj:cD P oj.op=0
 ·have hx:=dg hi h;obtain⟨a1,w1,hk,htu⟩:=dO hQ hi hx;have key:∀a1,qA oi a a1->execOp a1.eval oj=execOp a.eval oj/\ID oj (Iz ops a1.tmps)=ID oj (Iz ops a.tmps)/\gj a1.eval oj.op=gj a.eval oj.op:=by
   rintro a1 ⟨u,hu⟩;have e1:a1.eval=(a.put oi.dst u).eval:=by funext x;cases x<;>simp[Act.eval,hu]
   rw[e1,hu];refine⟨execOp_put oj hsj a oi.dst u h1,wanted_put oj a oi.dst u h1,ij _ fun x hx=>Act.eval_put fun d hd hxd=>h1 d hd (by
    subst hxd;exact JD _ (List.mem_filterMap.2 ⟨.tmp d,by simpa using hx,rfl⟩))⟩
  have k1:=key a1 htu;obtain⟨v,hy,_⟩:=jj hQ hj (iQ cj) (fun hw=>by rw[k1.2.2];exact hoj (iQ cj) (k1.2.1▸hw)) hk.2;have hya:Yields P ops oj v a:=hy.of_same k1.1.symm k1.2.1.symm;refine hya.wpOp hj ⟨(fun he=>by rw[ej,cj]at he;cases he),ii hQ hi hsi h3 h2 ?_⟩;refine IX (fun a' w' ⟨hk',ht'⟩=>?_) hx;have k2:=key a' ht';have hy':YC Kp P ops w' oj v a':=.of_yields (hya.of_same k2.1 k2.2.1);exact⟨hk'.1,(hy'.out hQ hj (Ext.refl _) hk'.2).2⟩
 have hc':(cD P oi.op=1/\cD P oj.op=1)\/(cD P oi.op=1/\lfi=G6/\cD P oj.op=2)\/(cD P oi.op=2/\cD P oj.op=1/\lfj=G6):=by
  simp[sq,ci,cj]at hc;rcases hc with(hc|hc)|hc
  ·exact .inl hc
  ·exact .inr (.inl ⟨hc.1.1,hc.1.2,hc.2⟩)
  ·exact .inr (.inr ⟨hc.1.1,hc.1.2,hc.2⟩)
 rcases hc' with⟨c1,c2⟩|⟨c1,l1,c2⟩|⟨c1,c2,l2⟩
 ·have h':wpOp P ops Q i (wpOp P ops Q j K) a w:=IX (fun _ _ x=>jL x) (jL h);have hs:=Fx hQ hi hj hap hsi hsj (by simp[uH,lx c1,lx c2]) hoi hoj h';refine IX (fun a' w' hk=>⟨(fun he=>by rw[ej,c2]at he;cases he),IX (fun a'' w'' hk2=>⟨(fun he=>by rw[ei,c1]at he;cases he),hk2⟩) hk⟩) hs
 ·obtain⟨hw0,hfit⟩:=hfi l1;obtain⟨v,hy⟩:=wb hQ hi (lx c1) hfit hw0 h;have hk:=hy.out hQ hi hw0 h;have:=xW (Y:=YC Kp P ops w0 oi v) (fun a a' e1 e2 hy=>hy.of_same e1 e2) hQ hj hap hsi hsj hy hk.2;refine IX (fun a' w' ⟨hy',hk'⟩=>⟨hk'.1,hy'.wpOp hi (hw0.trans (hk'.1 (by rw[ej,c2]))) ⟨(fun he=>by rw[ei,c1]at he;cases he),hk'.2⟩⟩) this
 ·obtain⟨hw0,hfit⟩:=hfj l2;have hx:=dg hi h;obtain⟨a1,w1,hk,htu⟩:=dO hQ hi hx;have key:∀a1,qA oi a a1->execOp a1.eval oj=execOp a.eval oj/\ID oj (Iz ops a1.tmps)=ID oj (Iz ops a.tmps)/\(fD Kp w0 a.eval oj.op->fD Kp w0 a1.eval oj.op):=by
   rintro a1 ⟨u,hu⟩;have e1:a1.eval=(a.put oi.dst u).eval:=by funext x;cases x<;>simp[Act.eval,hu]
   rw[e1,hu];refine⟨execOp_put oj hsj a oi.dst u h1,wanted_put oj a oi.dst u h1,fun hl=>?_⟩;cases hop:oj.op with
   | load t x =>
     rw[hop]at hl;obtain⟨b,o,z,hx,hz⟩:=hl;refine⟨b,o,z,?_,hz⟩;rw[<-hx];exact Act.eval_put fun d hd hxd=>h1 d hd (by
      subst hxd;exact JD _ (List.mem_filterMap.2 ⟨.tmp d,by simp[hop,Op.operands],rfl⟩))
   |_=>trivial
  have k1:=key a1 htu;have hw1:=hw0.trans (hk.1 (by rw[ei,c1]));obtain⟨v,hy⟩:=wb hQ hj (lx c2) (fun hw=>k1.2.2 (hfit (k1.2.1▸hw))) hw1 hk.2;have hya:YC Kp P ops w0 oj v a:=hy.of_same k1.1.symm k1.2.1.symm;refine hya.wpOp hj hw0 ⟨(fun he=>by rw[ej,c2]at he;cases he),ii hQ hi hsi h3 h2 ?_⟩;refine IX (fun a' w' ⟨hk',ht'⟩=>?_) hx;have k2:=key a' ht';have hw':=hw0.trans (hk'.1 (by rw[ei,c1]));exact⟨hk'.1,((hya.of_same k2.1 k2.2.1).out hQ hj hw' hk'.2).2⟩
def uM(Kp:Nat->Prop)(w0:World)(ops:Array Oper)(lf:Nat)(a:Act):Prop:=
 ∀(k:Nat) (o:Oper),ops[k]? =G5 o->lf.testBit k=G6->ID o (Iz ops a.tmps)=G6->fD Kp w0 a.eval o.op
def DT(md:Region.Mode)(ops:Array Oper)(k:Nat):Prop:=
 ∀ok:Oper,ops[k]? =G5 ok->∀(m:Nat) (om:Oper),ops[m]? =G5 om->∀d,om.dst=G5 d->d∈ok.looksAt ops->∃e∈ok.after,Iw md e=G6/\e.on=m
theorem ss {lf:Nat}{w0:World}{listed:Array Bool}{a a':Act}(hf:uM Kp w0 ops lf a')(hag:px ops listed a a'){k:Nat}{o:Oper}(hs:DT md ops k)(hk:ops[k]? =G5 o)(hr:k∈I5 md ops listed)(hl:lf.testBit k=G6):
 ID o (Iz ops a.tmps)=G6->fD Kp w0 a.eval o.op:=by
 intro hw;obtain⟨_,o',ho',hall⟩:=mem_ready.1 hr;obtain rfl:o'=o:=by rw[hk]at ho';exact(Option.some.inj ho').symm
 have hsame:∀t∈o'.looksAt ops,a'.tmps[t]? =a.tmps[t]? :=fun t ht=>hag t fun m om hm hl hd=>by
  obtain⟨e,he,hb,rfl⟩:=hs _ hk _ _ hm _ hd ht;have:=hall e he hb;rcases IT e.on listed.size with h'|h'
  ·simp[h']at this hl;rw[this]at hl;cases hl
  ·simp[Jh h']at this
 have hev:∀x∈o'.op.operands,a'.eval x=a.eval x:=fun x hx=>by
  cases x with
  | tmp t =>
    have:t∈o'.looksAt ops:=JD _ (List.mem_filterMap.2 ⟨.tmp t,by simpa using hx,rfl⟩);simp[Act.eval,Array.getD_eq_getD_getElem?,hsame t this]
  |_=>rfl
 have hy:ID o' (Iz ops a'.tmps)=ID o' (Iz ops a.tmps):=by
  unfold ID;cases hg:o'.guard with
  |none=>rfl
  | some gw =>
    obtain⟨g,want⟩:=gw;have:Iz ops a'.tmps g=Iz ops a.tmps g:=by
     unfold Iz;cases ht:(ops[g]?).bind (·.dst)with
     |none=>rfl
     | some t =>
       have:t∈o'.looksAt ops:=by simp[Oper.looksAt,hg,ht]
       simp[hsame t this]
    simp only[this]
 have:=hf k o' hk hl (hy▸hw);cases hop:o'.op with
 | load t x =>
   rw[hop]at this;obtain⟨b,of,z,hx,hz⟩:=this;exact⟨b,of,z,by rw[<-hx];exact(hev x (by simp[hop,Op.operands])).symm,hz⟩
 |_=>trivial
inductive Reach (md:Region.Mode) (ops:Array Oper):Nat->Nat->Prop where
 |one {k m:Nat} {o:Oper} {e:Edge}:ops[k]? =G5 o->e∈o.after->Iw md e=G6->e.on=m->Reach md ops k m
 |more {k m:Nat} {o:Oper} {e:Edge}:ops[k]? =G5 o->e∈o.after->Iw md e=G6->Reach md ops e.on m->Reach md ops k m
def Closed(md:Region.Mode)(ops:Array Oper)(listed:Array Bool):Prop:=
 ∀(m:Nat) (o:Oper),ops[m]? =G5 o->listed.getD m G7=G6->∀e∈o.after,Iw md e=G6->listed.getD e.on G7=G6
theorem Reach.listed {listed:Array Bool}(hc:Closed md ops listed){k m:Nat}(h:Reach md ops k m)(hk:∀o:Oper,ops[k]? =G5 o->∀e∈o.after,Iw md e=G6->listed.getD e.on G7=G6):listed.getD m G7=true:=by
 induction h with
 |one ho he hb hm=>subst hm;exact hk _ ho _ he hb
 |more ho he hb _ ih=>exact ih fun o' ho' e' he' hb'=>hc _ o' ho' (hk _ ho _ he hb) e' he' hb'
theorem Closed.set {listed:Array Bool}(hc:Closed md ops listed){j:Nat}(hk:∀o:Oper,ops[j]? =G5 o->∀e∈o.after,Iw md e=G6->listed.getD e.on G7=G6):Closed md ops (listed.setIfInBounds j G6):=by
 have hmono:∀i,listed.getD i G7=G6->(listed.setIfInBounds j G6).getD i G7=true:=fun i hi=>by
  by_cases hij:j=i
  ·subst hij;by_cases hs:j<listed.size
   ·simp[hs]
   ·simp[hs]at hi
  ·simpa[Array.getElem?_setIfInBounds,hij]using hi
 intro m o ho hm e he hb;by_cases hjm:j=m
 ·subst hjm;exact hmono _ (hk o ho e he hb)
 ·refine hmono _ (hc m o ho ?_ e he hb);simpa[Array.getElem?_setIfInBounds,hjm]using hm
def ne(md:Region.Mode)(ops:Array Oper):Nat->Nat->Nat->Bool
 |0,_,_=>G7
 |f+1,k,m=>match ops[k]?with|some o=>o.after.toList.any (fun e=>Iw md e&&(e.on==m||ne md ops f e.on m))|none=>G7
theorem st:∀(f k m:Nat),ne md ops f k m=G6->Reach md ops k m
 |0,_,_,h=>by simp[ne]at h
 | f + 1, k, m, h => by
   unfold ne at h;split at h
   ·rename_i o ho;rw[List.any_eq_true]at h;obtain⟨e,he,h⟩:=h;simp only[Ik,IE,beq_iff_eq]at h;obtain⟨hb,h|h⟩:=h
    ·exact .one ho (by simpa using he) hb h
    ·exact .more ho (by simpa using he) hb (st f _ _ h)
   ·cases h
structure Ef(P:Ia)(md:Region.Mode)(ops:Array Oper)(lf:Nat):Prop where
 ssa:∀k,lf.testBit k=G6->DT md ops k
 act:∀(k:Nat) (o:Oper),ops[k]? =G5 o->cD P o.op=3->∀m,lf.testBit m=G6->m<ops.size->Reach md ops k m
theorem qD {i:Nat}{oi:Oper}{D:Array Bool}{lf:Nat}{w0:World}(hQ:Shut Q)(hfin:∀a w,Q .normal a w->fin P ops a=G6/\uM Kp w0 ops lf a)(hs:ssa md ops=G6)(hlf:Ef P md ops lf)(hi:ops[i]? =G5 oi)(hsel:∀(j:Nat) (o:Oper) cs b,ops[j]? =G5 o->o.op≠ .select cs b):
 ∀ (fuel : Nat) (listed : Array Bool) (a : Act) (w : World), Closed md ops listed → ((∃ k, k < ops.size ∧ lf.testBit k = G6 ∧ listed.getD k G6 = G7) → Ext Kp w0 w) → Inv md ops listed i D →
   (∀j oj,ops[j]? =G5 oj->j≠i->listed.getD j G6=G7->D.getD j G7=G7->oi.apart ops oj=G6/\sq P oi.op oj.op (lf.testBit i) (lf.testBit j)=G6)->
   i∈I5 md ops listed->
   gp Kp P ops Q i (jM Kp P md ops Q fuel (listed.setIfInBounds i G6)) a w->jM Kp P md ops Q (fuel+1) listed a w:=by
 intro fuel
 induction fuel with
 | zero =>
   intro listed a w _ _ _ _ hr H;refine⟨fun h=>(by rw[h]at hr;cases hr),fun j hj=>?_⟩;by_cases hji:j=i
   ·subst hji;exact H
   ·have h1:=ready_mono hj hji;obtain⟨a1,w1,h2⟩:=dO hQ hi H;rw[h2.2.1]at h1;cases h1
 | succ fuel ih =>
   intro listed a w hcl hext hinv hfree hr H;refine⟨fun h=>(by rw[h]at hr;cases hr),fun j hj=>?_⟩;by_cases hji:j=i
   ·subst hji;exact H
   ·have hun:=(mem_ready.1 hr).1;obtain⟨hjun,oj,hoj,hall⟩:=mem_ready.1 hj;have hDj:=hinv.out hun hj;obtain⟨hap,hco⟩:=hfree j oj hoj hji hjun hDj;obtain⟨a1,w1,hk1,ht1⟩:=dO hQ hi (dg hi H);obtain⟨a2,w2,hq2,hag⟩:=zA hQ _ _ _ _ (jN _ _ _ _ hk1.2);have hag':=il hi hun ht1 hag;obtain⟨hf2,hl2⟩:=hfin _ _ hq2;have hil:i<ops.size:=(I6.1 hi).1;have hjl:j<ops.size:=(I6.1 hoj).1;have H2:gp Kp P ops Q i (gp Kp P ops Q j (jM Kp P md ops Q fuel ((listed.setIfInBounds i G6).setIfInBounds j G6))) a w:=
     uL (fun a' w' h=>h.2 j (ready_mono hj hji)) H
    have hoj':=ku hs hf2 hag' hoj hj;have H3:=Fz hQ hi hoj hap (fun cs b=>hsel i oi cs b hi) (fun cs b=>hsel j oj cs b hoj) hco (ku hs hf2 hag' hi hr) hoj'
     (fun hl=>⟨hext ⟨i,hil,hl,hun⟩,ss hl2 hag' (hlf.ssa i hl) hi hr hl⟩) (fun hl=>⟨hext ⟨j,hjl,hl,hjun⟩,ss hl2 hag' (hlf.ssa j hl) hoj hj hl⟩) H2
    have H4:wpOp P ops Q j (fun a' w'=>((cD P oj.op<=1->w'=w)/\(cD P oj.op=2->Ext Kp w w'))/\gp Kp P ops Q i (jM Kp P md ops Q fuel ((listed.setIfInBounds i G6).setIfInBounds j G6)) a' w') a w:=by
     have ej:((ops[j]?).map fun o=>cD P o.op)=G5 (cD P oj.op):=by rw[hoj];rfl
     by_cases c0:cD P oj.op=0
     ·exact IX (fun a' w' h=>⟨⟨fun _=>h.1,fun he=>by rw[c0]at he;cases he⟩,h.2.2⟩) (im hQ hoj (fun hw=>(Cl (iQ c0) (hoj' (iQ c0) hw)).2) H3)
     by_cases c1:cD P oj.op=1
     ·exact IX (fun a' w' h=>⟨⟨fun _=>h.1,fun he=>by rw[c1]at he;cases he⟩,h.2.2⟩) (im hQ hoj (fun hw=>Cm (lx c1)) H3)
     ·exact IX (fun a' w' h=>⟨⟨fun he=>by omega,fun he=>h.1 (by rw[ej,he])⟩,h.2⟩) H3
    refine IX (fun a' w' h3=>⟨fun he=>h3.1.2 (by rw[hoj]at he;simpa using he),ih (listed.setIfInBounds j G6) a' w' (hcl.set fun o' ho'=>by rw[hoj]at ho';cases ho';exact hall) (fun⟨k,hkl,hk,hku⟩=>?_) ⟨fun k hk=>?_,hinv.edge⟩ (fun k ok hk hki hkun hD=>?_) (ready_mono hr (Ne.symm hji)) ?_⟩) H4
    ·have hjk:j≠k:=fun e=>by
      subst e;have hjs:j<listed.size\/listed.size<=j:=IT _ _;rcases hjs with h'|h'
      ·simp[h']at hku
      ·simp[Jh h']at hjun
     rw[getD_set_ne G6 hjk]at hku;have hw0:=hext ⟨k,hkl,hk,hku⟩;by_cases cj:cD P oj.op<=1
     ·rw[h3.1.1 cj];exact hw0
     by_cases c2:cD P oj.op=2
     ·exact hw0.trans (h3.1.2 c2)
     ·exfalso;have c3:cD P oj.op=3:=by
       have:cD P oj.op<=3:=by
        unfold cD;split
        ·split<;>omega
        ·rename_i hne;have:cls P oj.op<=2:=by
          unfold cls;split<;>first|omega|(split<;>omega)
         omega
       omega
      have:=(hlf.act j oj hoj c3 k hk hkl).listed hcl fun o' ho'=>by rw[hoj]at ho';cases ho';exact hall
      rcases IT k listed.size with h'|h'
      ·simp[h']at this hku;rw[this]at hku;cases hku
      ·simp[Jh h']at this
    ·have hne:j≠k:=fun e=>by rw[e,hk]at hDj;cases hDj
     rw[getD_set_ne G6 hne];exact hinv.un k hk
    ·refine hfree k ok hk hki ?_ hD;by_cases hjk:j=k
     ·subst hjk;exact hjun
     ·rw[getD_set_ne G6 hjk]at hkun;exact hkun
    ·rw[Array.setIfInBounds_comm _ _ hji];exact h3.2
structure ng extends pd where
 c4:Nat
 lf:Bool
def DU(P:Ia)(md:Region.Mode)(ops:Array Oper)(lf:Nat)(o:Oper)(k:Nat):ng:=
 {info P md ops o with c4:=cD P o.op,lf:=lf.testBit k}
def Eg(x y:ng):Bool:=x.c4==0||y.c4==0||(x.c4==1&&y.c4==1)||(x.c4==1&&x.lf&&y.c4==2)||(x.c4==2&&y.c4==1&&y.lf)
def wg(x y:ng):Bool:=(x.dm&&&y.lm)==0&&(x.dm&&&y.dm)==0&&(y.dm&&&x.lm)==0&&Eg x y
def su(x:ng)(k:Nat):List ng->Nat->Nat->Bool
 |[],_,_=>G6
 |y::rest,j,D=>if(y.am&&&(D|||2^k))!=0 then su x k rest (j+1) (D|||2^j)else wg x y&&su x k rest (j+1) D
def Co:List ng->Nat->Bool
 |[],_=>G6
 |x::rest,k=>decide (x.am<2^k)&&su x k rest (k+1) 0&&Co rest (k+1)
def ly(P:Ia)(md:Region.Mode)(ops:Array Oper)(lf:Nat):List Oper->Nat->List ng
 |[],_=>[]
 |o::l,k=>DU P md ops lf o k::ly P md ops lf l (k+1)
def pC:List pd->List Nat->List Nat
 |[],B=>B.reverse
 |x::rest,B=>pC rest ((x.am|||up x.am B.reverse 0)::B)
where
 up (am:Nat):List Nat->Nat->Nat
  |[],_=>0
  |b::r,m=>(if am.testBit m then b else 0)|||up am r (m+1)
def sv(P:Ia)(ops:List Oper):Nat:=
 let inf:=ops.map (info P .any ops.toArray);let anc:=pC inf []
 mj ((List.range ops.length).filter fun k=>match ops[k]?with
  |some o=>cD P o.op==1&&(List.range ops.length).any fun j=>(match ops[j]?with|some p=>cD P p.op==2|none=>G7)&& !(anc.getD k 0).testBit j&& !(anc.getD j 0).testBit k
  |none=>G7)
def zC(P:Ia)(ops:List Oper)(lf:Nat):Bool:=
 (List.range ops.length).all (fun k=> !lf.testBit k||(match ops[k]?with|some o=>ssaI.go (info P .any ops.toArray o) (ops.map (info P .any ops.toArray)) 0|none=>G6))&&
 (List.range ops.length).all (fun k=>(match ops[k]?with|some o=>cD P o.op !=3|none=>G6)||(List.range ops.length).all fun m=> !lf.testBit m||ne .any ops.toArray 6 k m)
def Eh(P:Ia)(ops:List Oper):Bool:=
 Region.noSelect ops.toArray&&ssaI (ops.map (info P .any ops.toArray))&&zC P ops (sv P ops)&&decide (sv P ops<2^ops.length)&&Co (ly P .any ops.toArray (sv P ops) ops 0) 0
theorem nh {P:Ia}{md:Region.Mode}{ops:Array Oper}{x y:Oper}(h1:((info P md ops x).dm&&&(info P md ops y).lm==0)=G6)(h2:((info P md ops x).dm&&&(info P md ops y).dm==0)=G6)(h3:((info P md ops y).dm&&&(info P md ops x).lm==0)=G6):x.apart ops y=true:=by
 simp only[beq_iff_eq]at h1 h2 h3;unfold Oper.apart;rw[Ik];constructor
 ·split
  ·rename_i d hd;have hx:=(dm_spec (P:=P) (md:=md) (ops:=ops) (o:=x)).2 hd;rw[Ik];constructor
   ·rw[Bool.not_eq_true',List.contains_eq_mem,decide_eq_false_iff_not];exact fun hm=>jJ hx ((lm_spec (P:=P) (md:=md)).2 hm) h1
   ·rw[bne_iff_ne];exact fun hy=>jJ hx ((dm_spec (P:=P) (md:=md) (ops:=ops)).2 hy) h2
  ·rfl
 ·split
  ·rename_i d hd;have hy:=(dm_spec (P:=P) (md:=md) (ops:=ops) (o:=y)).2 hd;rw[Bool.not_eq_true',List.contains_eq_mem,decide_eq_false_iff_not];exact fun hm=>jJ hy ((lm_spec (P:=P) (md:=md)).2 hm) h3
  ·rfl
theorem jO {P:Ia}{md:Region.Mode}{ops:Array Oper}{x:Oper}{k lf:Nat}:∀(l:List Oper) (j0 D:Nat),su (DU P md ops lf x k) k (ly P md ops lf l j0) j0 D=G6->
 (∀j:Nat,D.testBit j=G6->j<j0)->
 ∃ D' : Nat, (∀ j : Nat, D.testBit j = G6 → D'.testBit j = G6) ∧ (∀ j : Nat, D'.testBit j = G6 → D.testBit j = G6 ∨ j0 ≤ j) ∧
   (∀(j:Nat) (y:Oper),l[j]? =G5 y->D'.testBit (j0+j)=G6->∃e∈y.after,Iw md e=G6/\(e.on=k\/D'.testBit e.on=G6))/\
   (∀j:Nat,D'.testBit j=G6->D.testBit j=G6\/∃(i:Nat) (y:Oper),l[i]? =G5 y/\j=j0+i)/\
   (∀(j:Nat) (y:Oper),l[j]? =G5 y->D'.testBit (j0+j)=G7->x.apart ops y=G6/\sq P x.op y.op (lf.testBit k) (lf.testBit (j0+j))=G6)
 |[],j0,D,_,_=>⟨D,fun _ h=>h,fun _ h=>.inl h,fun j y h=>by simp at h,fun _ h=>.inl h,fun j y h=>by simp at h⟩
 | z :: l, j0, D, h, hD => by
   simp only[ly,su]at h;split at h
   ·rename_i hne;rw[bne_iff_ne]at hne;obtain⟨m,hm1,hm2⟩:=uI hne;have hD2:∀j,(D|||2^j0).testBit j=G6->j<j0+1:=fun j hj=>by
     rw[Js,JE,IE,decide_eq_true_eq]at hj;rcases hj with hj|hj
     ·have:=hD j hj;omega
     ·omega
    obtain⟨D',g1,g2,g3,g4,g5⟩:=jO l (j0+1) (D|||2^j0) h hD2;have sub:∀j,D.testBit j=G6->D'.testBit j=true:=fun j hj=>g1 j (by simp[Js,hj])
    have hj0:D'.testBit j0=true:=g1 j0 (by simp[Js]);refine⟨D',sub,fun j hj=>?_,fun j y hy hj=>?_,fun j hj=>?_,fun j y hy hj=>?_⟩
    ·rcases g2 j hj with h1|h1
     ·rw[Js,JE,IE,decide_eq_true_eq]at h1;rcases h1 with h1|h1
      ·exact .inl h1
      ·exact .inr (by omega)
     ·exact .inr (by omega)
    ·cases j with
     | zero =>
       simp at hy;subst hy;obtain⟨e,he,hb,hon⟩:=am_spec.1 hm1;refine⟨e,he,hb,?_⟩;rw[Js,JE,IE,decide_eq_true_eq]at hm2;rcases hm2 with h2|h2
       ·exact .inr (sub _ (by rw[hon];exact h2))
       ·exact .inl (by omega)
     |succ j=>exact g3 j y (by simpa using hy) (by rw[<-hj];congr 1;omega)
    ·rcases g4 j hj with h1|⟨i,y,hy,rfl⟩
     ·rw[Js,JE,IE,decide_eq_true_eq]at h1;rcases h1 with h1|h1
      ·exact .inl h1
      ·exact .inr ⟨0,z,rfl,by omega⟩
     ·exact .inr ⟨i+1,y,by simpa using hy,by omega⟩
    ·cases j with
     |zero=>simp[hj0]at hj
     | succ j =>
       have:=g5 j y (by simpa using hy) (by rw[<-hj];congr 1;omega);rw[show j0+1+j=j0+(j+1)by omega]at this;exact this
   ·rename_i hne;rw[Ik]at h;have hp:x.apart ops z=G6/\sq P x.op z.op (lf.testBit k) (lf.testBit j0)=true:=by
     have h0:=h.1;simp only[wg,Ik]at h0;obtain⟨⟨⟨a1,a2⟩,a3⟩,a4⟩:=h0;refine⟨?_,a4⟩;exact nh a1 a2 a3
    obtain⟨D',g1,g2,g3,g4,g5⟩:=jO l (j0+1) D h.2 (fun j hj=>by have:=hD j hj;omega);have hnot:D'.testBit j0=false:=by
     cases hb:D'.testBit j0 with
     |false=>rfl
     | true =>
       rcases g2 j0 hb with h1|h1
       ·have:=hD _ h1;omega
       ·omega
    refine⟨D',g1,fun j hj=>?_,fun j y hy hj=>?_,fun j hj=>?_,fun j y hy hj=>?_⟩
    ·rcases g2 j hj with h1|h1
     ·exact .inl h1
     ·exact .inr (by omega)
    ·cases j with
     |zero=>simp[hnot]at hj
     |succ j=>exact g3 j y (by simpa using hy) (by rw[<-hj];congr 1;omega)
    ·rcases g4 j hj with h1|⟨i,y,hy,rfl⟩
     ·exact .inl h1
     ·exact .inr ⟨i+1,y,by simpa using hy,by omega⟩
    ·cases j with
     |zero=>simp at hy;subst hy;exact hp
     | succ j =>
       have:=g5 j y (by simpa using hy) (by rw[<-hj];congr 1;omega);rw[show j0+1+j=j0+(j+1)by omega]at this;exact this
theorem ni {P:Ia}{o:Oper}{a:Act}{w:World}{K:Act->World->Prop}{Q Q':Exit->Act->World->Prop}(hq:∀e a w,Q e a w->Q' e a w)(h:o.wp P a w K Q):o.wp P a w K Q':=by
 unfold Oper.wp at*
 generalize(execOp a.eval o).run P w=r at*
 cases r with
 | ok n w' =>
   cases n<;>simp only[Oper.upon]at h ⊢ <;>try exact h
   exact Calls.mono h fun e w'' he=>by
    cases e with
    |returned v=>exact he
    |panicked c=>exact hq _ _ _ he
    |outgrown=>obtain⟨a0,w0,h0⟩:=he;exact⟨a0,w0,hq _ _ _ h0⟩
 |halt x w'=>cases x<;>simp only[Oper.upon]at h ⊢;exact hq _ _ _ h
def wpX(Kp:Nat->Prop)(P:Ia)(ops:Array Oper)(Q:Exit->Act->World->Prop):List Oper->Act->World->Prop
 |[],a,w=>Q .normal a w
 |o::rest,a,w=>wpList P ops (Exit.then (fun a' w'=>(cD P o.op=2->Ext Kp w w')/\wpX Kp P ops Q rest a' w') (fun _ _ _=>False)) [o] a w
theorem aO {Q:Exit->Act->World->Prop}{a:Act}{w:World}(h:Q .normal a w):wpX Kp P ops Q [] a w:=h
theorem xY {o:Oper}{rest:List Oper}{a:Act}{w:World}(hc:(cD P o.op==2)=G7)(h:wpList P ops (Exit.then (wpX Kp P ops Q rest) (fun _ _ _=>False)) [o] a w):wpX Kp P ops Q (o::rest) a w:=by
 have hne:cD P o.op≠2:=by simpa using hc
 unfold wpX;simp only[wpList]at h ⊢;split at h
 ·rename_i hw;rw[if_pos hw];rcases h with h|⟨h1,a0,w0,h2⟩
  ·exact .inl (Oper.wp_mono (fun a' w' x=>⟨fun he=>absurd he hne,x⟩) (ni (fun e a w x=>by cases e<;>first|exact x.elim|exact⟨fun he=>absurd he hne,x⟩) h))
  ·exact h2.elim
 ·rename_i hw;rw[if_neg hw];exact⟨fun he=>absurd he hne,h⟩
theorem aK {o:Oper}{rest:List Oper}{a:Act}{w:World}(h:wpList P ops (Exit.then (fun a' w'=>Ext Kp w w'/\wpX Kp P ops Q rest a' w') (fun _ _ _=>False)) [o] a w):wpX Kp P ops Q (o::rest) a w:=by
 unfold wpX;simp only[wpList]at h ⊢;split at h
 ·rename_i hw;rw[if_pos hw];rcases h with h|⟨h1,a0,w0,h2⟩
  ·exact .inl (Oper.wp_mono (fun a' w' x=>⟨fun _=>x.1,x.2⟩) (ni (fun e a w x=>by cases e<;>first|exact x.elim|exact⟨fun _=>x.1,x.2⟩) h))
  ·exact h2.elim
 ·rename_i hw;rw[if_neg hw];exact⟨fun _=>h.1,h.2⟩
theorem aq {w w':World}{R:Prop}(h:Ext Kp w w')(k:R):Ext Kp w w'/\R:=⟨h,k⟩
theorem nm {Q':Exit->Act->World->Prop}(hs:Shut Q'){i:Nat}{K:Act->World->Prop}{a:Act}{w:World}(h:wpOp P ops Q' i K a w):wpOp P ops Q i K a w:=by
 unfold wpOp at*
 split
 ·rename_i hn;rw[hn]at h;exact h
 ·rename_i o ho;simp only[ho]at h;split
  ·rename_i hw;simp only[hw,if_true]at h;rcases h with h|⟨h1,a0,w0,h2⟩
   ·refine .inl ?_;unfold Oper.wp at*
    generalize(execOp a.eval o).run P w=r at*
    cases r with
    | ok n w' =>
      cases n<;>simp only[Oper.upon]at h ⊢ <;>try exact h
      exact Calls.mono h fun e w'' he=>by
       cases e with
       |returned v=>exact he
       |panicked c=>exact absurd he (hs.panic _ _ _)
       |outgrown=>obtain⟨a0,w0,h0⟩:=he;exact absurd h0 (hs.room _ _)
    | halt x w' =>
      cases x<;>simp only[Oper.upon]at h ⊢;exact absurd h (hs.panic _ _ _)
   ·exact absurd h2 (hs.room _ _)
  ·rename_i hw;simp only[hw]at h;exact h
theorem lz {K:Act->World->Prop}:Shut (Exit.then K (fun _ _ _=>False)):=⟨fun _ _ _ h=>h,fun _ _ h=>h⟩
theorem zD {k:Nat}{o:Oper}{l:List Oper}{a:Act}{w:World}(hk:ops[k]? =G5 o)(h:wpX Kp P ops Q (o::l) a w):gp Kp P ops Q k (wpX Kp P ops Q l) a w:=by
 unfold wpX at h;have hst:wpOp P ops (Exit.then (fun a' w'=>(cD P o.op=2->Ext Kp w w')/\wpX Kp P ops Q l a' w') (fun _ _ _=>False)) k (fun a' w'=>(cD P o.op=2->Ext Kp w w')/\wpX Kp P ops Q l a' w') a w:=by
  unfold wpOp;simp only[hk];exact h
 unfold gp;refine IX (fun a' w' x=>⟨fun he=>x.1 (by rw[hk]at he;simpa using he),x.2⟩) (nm lz hst)
theorem wh(hQ:Shut Q){l0:List Oper}:∀(l:List Oper) (k:Nat) (listed:Array Bool) (a:Act) (w:World),Listed l0.length k listed->l0.length=k+l.length->(∀j:Nat,l[j]? =l0[k+j]?)->wpX Kp P l0.toArray Q l a w->
 ∃a' w',Q .normal a' w'/\px l0.toArray listed a a'
 |[],_,_,a,w,_,_,_,h=>⟨a,w,h,fun _ _=>rfl⟩
 | o :: l, k, listed, a, w, hL, hn, hl, h => by
   have h0:l0.toArray[k]? =G5 o:=by simpa using(hl 0).symm
   obtain⟨a1,w1,hk,ht⟩:=dO hQ h0 (dg h0 (zD h0 h));obtain⟨a2,w2,hq,hag⟩:=wh hQ l (k+1) _ a1 w1 hL.next (by simp at hn;omega) (fun j=>by have:=hl (j+1);simpa[Nat.add_assoc,Nat.add_comm 1 j]using this) hk.2;exact⟨a2,w2,hq,il h0 ((hL.t k).2 ⟨by simp at hn;omega,G8 _⟩) ht hag⟩
theorem Cp(o:Op):cD P o<=3:=by
 unfold cD;split
 ·split<;>omega
 ·rename_i hne;have:cls P o<=2:=by
   unfold cls;split<;>first|omega|(split<;>omega)
  omega
theorem np {l0:List Oper}{lf:Nat}{w0:World}(hQ:Shut Q)(hfin:∀a w,Q .normal a w->fin P l0.toArray a=G6/\uM Kp w0 l0.toArray lf a)(hs:ssa md l0.toArray=G6)(hlf:Ef P md l0.toArray lf)(hsel:Region.noSelect l0.toArray=G6):
 ∀(l:List Oper) (k:Nat) (listed:Array Bool) (a:Act) (w:World),Closed md l0.toArray listed->((∃m,m<l0.toArray.size/\lf.testBit m=G6/\listed.getD m G6=G7)->Ext Kp w0 w)->Listed l0.length k listed->l0.length=k+l.length->(∀j:Nat,l[j]? =l0[k+j]?)->
 Co (ly P md l0.toArray lf l k) k=G6->wpX Kp P l0.toArray Q l a w->jM Kp P md l0.toArray Q l.length listed a w
 | [], k, listed, a, w, _, _, hL, hn, _, _, h => by
   refine⟨?_,h⟩;cases hr:I5 md l0.toArray listed with
   |nil=>rfl
   | cons i rest =>
     have hi:i∈I5 md l0.toArray listed:=by rw[hr];simp
     have:=(hL.t i).1 (mem_ready.1 hi).1;simp at hn;omega
 | o :: l, k, listed, a, w, hcl, hext, hL, hn, hl, hB, h => by
   have h0:l0.toArray[k]? =G5 o:=by simpa using(hl 0).symm
   simp only[ly,Co,Ik,decide_eq_true_eq]at hB;obtain⟨⟨ham,hw⟩,hB'⟩:=hB;have ham:(info P md l0.toArray o).am<2^k:=ham;have hkn:k<l0.length:=by simp at hn;omega
   have hlt:∀e∈o.after,Iw md e=G6->e.on<k:=fun e he hb=>by
    have hbit:(info P md l0.toArray o).am.testBit e.on=true:=am_spec.2 ⟨e,he,hb,rfl⟩;rcases IT e.on k with h'|h'
    ·exact h'
    ·have:(info P md l0.toArray o).am.testBit e.on=false:=Nat.testBit_lt_two_pow (Ig ham (Nat.pow_le_pow_right (by omega) h'));rw[this]at hbit;cases hbit
   have hafter:∀e∈o.after,Iw md e=G6->listed.getD e.on G7=true:=fun e he hb=>(hL.f _).2 (by have:=hlt e he hb;omega)
   have hcl2:Closed md l0.toArray (listed.setIfInBounds k G6):=hcl.set fun o' ho'=>by rw[h0]at ho';cases ho';exact hafter
   have hr:k∈I5 md l0.toArray listed:=by
    refine mem_ready.2 ⟨(hL.t k).2 ⟨hkn,G8 _⟩,o,h0,fun e he hb=>(hL.f _).2 ?_⟩;have:=hlt e he hb;omega
   obtain⟨D',_,_,g3,g4,g5⟩:=jO l (k+1) 0 hw (fun j hj=>by simp at hj);have hlj:∀j y,l0.toArray[j]? =G5 y->k<j->l[j-(k+1)]? =G5 y/\j=k+1+(j-(k+1)):=fun j y hy hj=>by
    refine⟨?_,by omega⟩;have:=hl (j-(k+1)+1);rw[show k+(j-(k+1)+1)=j by omega]at this;simp only[List.getElem?_cons_succ]at this;rw[this];simpa using hy
   let D:Array Bool:=Array.ofFn fun i:Fin l0.length=>D'.testBit i
   have hDt:∀j,D.getD j G7=G6->D'.testBit j=G6/\j<l0.length:=fun j hj=>by
    rcases IT j l0.length with h'|h'
    ·simp[D,h']at hj;exact⟨hj,h'⟩
    ·simp[D,h']at hj
   have hDf:∀j,j<l0.length->D.getD j G7=D'.testBit j:=fun j hj=>by simp[D,hj]
   have hge:∀j,D'.testBit j=G6->k+1<=j/\j<l0.length:=fun j hj=>by
    rcases g4 j hj with h1|⟨i,y,hy,rfl⟩
    ·simp at h1
    ·have:=(List.getElem?_eq_some_iff.1 hy).1;simp at hn;omega
   have hinv:Inv md l0.toArray listed k D:=by
    refine⟨fun j hj=>(hL.t j).2 ⟨(hDt j hj).2,by have:=hge j (hDt j hj).1;omega⟩,fun j hj=>?_⟩;obtain⟨h1,h2⟩:=hDt j hj;have h3:=hge j h1;have hy:l0.toArray[j]? =G5 l0[j]:=by simp[h2]
    obtain⟨hy',he⟩:=hlj j _ hy (by omega);obtain⟨e,he1,he2,he3⟩:=g3 _ _ hy' (by rw[<-he];exact h1);refine⟨l0[j],e,hy,he1,he2,he3.imp id fun h4=>?_⟩;rw[hDf _ (hge _ h4).2];exact h4
   have hst:=zD h0 h;have hL':=hL.next;have hn':l0.length=k+1+l.length:=by simp at hn;omega
   have hl':∀j:Nat,l[j]? =l0[k+1+j]? :=fun j=>by have:=hl (j+1);simpa[Nat.add_assoc,Nat.add_comm 1 j]using this
   have hok:cls P o.op=0->ID o (Iz l0.toArray a.tmps)=G6->gj a.eval o.op=true:=by
    obtain⟨a2,w2,hq,hag⟩:=wh hQ (o::l) k listed a w hL hn hl h;exact ku hs (hfin _ _ hq).1 hag h0 hr
   have ek:((l0.toArray[k]?).map fun o=>cD P o.op)=G5 (cD P o.op):=by rw[h0];rfl
   have H4:wpOp P l0.toArray Q k (fun a' w'=>((cD P o.op<=1->w'=w)/\(cD P o.op=2->Ext Kp w w'))/\wpX Kp P l0.toArray Q l a' w') a w:=by
    by_cases c0:cD P o.op=0
    ·exact IX (fun a' w' h=>⟨⟨fun _=>h.1,fun he=>by rw[c0]at he;cases he⟩,h.2.2⟩) (im hQ h0 (fun hw=>(Cl (iQ c0) (hok (iQ c0) hw)).2) hst)
    by_cases c1:cD P o.op=1
    ·exact IX (fun a' w' h=>⟨⟨fun _=>h.1,fun he=>by rw[c1]at he;cases he⟩,h.2.2⟩) (im hQ h0 (fun hw=>Cm (lx c1)) hst)
    ·exact IX (fun a' w' h=>⟨⟨fun he=>by omega,fun he=>h.1 (by rw[ek,he])⟩,h.2⟩) hst
   refine qD hQ hfin hs hlf h0 (Region.noSelect_spec hsel) l.length listed a w hcl hext hinv (fun j oj hoj hne hun hD=>?_) hr ?_
   ·have hj:=(hL.t j).1 hun;obtain⟨hy',he⟩:=hlj j _ hoj (by omega);rw[hDf j hj.1]at hD;have:=g5 _ _ hy' (by rw[<-he];exact hD);rw[<-he]at this;exact this
   ·refine IX (fun a' w' h4=>⟨fun he=>h4.1.2 (by rw[ek]at he;simpa using he),np hQ hfin hs hlf hsel l (k+1) _ a' w' hcl2 (fun⟨m,hml,hm,hmu⟩=>?_) hL' hn' hl' hB' h4.2⟩) H4;have hmk:=(hL'.t m).1 hmu;have hw0:=hext ⟨m,hml,hm,(hL.t m).2 ⟨hmk.1,by omega⟩⟩;by_cases c1:cD P o.op<=1
    ·rw[h4.1.1 c1];exact hw0
    by_cases c2:cD P o.op=2
    ·exact hw0.trans (h4.1.2 c2)
    ·exfalso;have c3:cD P o.op=3:=by have:=Cp (P:=P) o.op;omega
     have:=(hlf.act k o h0 c3 m hm hml).listed hcl fun o' ho'=>by rw[h0]at ho';cases ho';exact hafter
     have:=(hL.f m).1 this;omega
theorem Cq {l:List Oper}{lf:Nat}(h:zC P l lf=G6):Ef P .any l.toArray lf:=by
 simp only[zC,Ik,List.all_eq_true,List.mem_range,IE,Bool.not_eq_true']at h;refine⟨fun k hk ok hok m om hom d hd hl=>?_,fun k o ho hc m hm hml=>?_⟩
 ·have hkl:k<l.length:=by have:=(I6.1 hok).1;simpa using this
  have hok':l[k]? =G5 ok:=by simpa using hok
  rcases h.1 k hkl with h1|h1
  ·rw[hk]at h1;cases h1
  ·rw[hok']at h1;obtain⟨e,he,hb,hon⟩:=qC l 0 h1 m om (by simpa using hom) d hd hl;exact⟨e,he,hb,by omega⟩
 ·have hkl:k<l.length:=by have:=(I6.1 ho).1;simpa using this
  have hok':l[k]? =G5 o:=by simpa using ho
  rcases h.2 k hkl with h1|h1
  ·rw[hok']at h1;simp only[bne_iff_ne,ne_eq]at h1;exact absurd hc h1
  ·rcases h1 m (by simpa using hml)with h2|h2
   ·rw[hm]at h2;cases h2
   ·exact st 6 _ _ h2
def io(Kp:Nat->Prop)(lf:Nat)(ops:Array Oper)(w0:World)(a:Act):List Oper->Nat->Prop
 |[],_=>True
 |o::l,k=>(lf.testBit k=G6->ID o (Iz ops a.tmps)=G6->fD Kp w0 a.eval o.op)/\io Kp lf ops w0 a l (k+1)
theorem sw {lf:Nat}{w0:World}{a:Act}:∀(l:List Oper) (k:Nat),io Kp lf ops w0 a l k->∀(j:Nat) (o:Oper),l[j]? =G5 o->lf.testBit (k+j)=G6->ID o (Iz ops a.tmps)=G6->fD Kp w0 a.eval o.op
 |[],_,_,j,o,hj=>by simp at hj
 | z :: l, k, h, j, o, hj => by
   cases j with
   |zero=>simp at hj;subst hj;exact h.1
   | succ j =>
     have:=sw l (k+1) h.2 j o (by simpa using hj);rw[show k+1+j=k+(j+1)by omega]at this;exact this
theorem aL {lf:Nat}{w0:World}{a:Act}{k:Nat}:io Kp lf ops w0 a [] k:=trivial
def Ei:Op->Bool
 | .load .. =>G7
 |_=>G6
theorem aG {lf:Nat}{w0:World}{a:Act}{o:Oper}{l:List Oper}{k:Nat}(h:Ei o.op=G6)(r:io Kp lf ops w0 a l (k+1)):io Kp lf ops w0 a (o::l) k:=by
 refine⟨fun _ _=>?_,r⟩;cases hop:o.op with
 |load t x=>rw[hop]at h;cases h
 |_=>trivial
theorem aH {lf:Nat}{w0:World}{a:Act}{o:Oper}{l:List Oper}{k:Nat}(h:lf.testBit k=G7)(r:io Kp lf ops w0 a l (k+1)):io Kp lf ops w0 a (o::l) k:=
 ⟨fun h1=>(by rw[h]at h1;cases h1),r⟩
theorem an {lf:Nat}{w0:World}{a:Act}{d:Option Tmp}{t T:TypeId}{x:Operand}{pos:String}{after:Array Edge}{g:Option (Nat×Bool)}{l:List Oper}{k b o:Nat}{v:Value}(hx:a.eval x=.pointer (G5 ⟨b,o,G0⟩))(hkp:Kp b)(hv:w0.cell? ⟨b,o,G0⟩=G5 v)(r:io Kp lf ops w0 a l (k+1)):io Kp lf ops w0 a (⟨d,.load t x,T,pos,after,g⟩::l) k:=
 ⟨fun _ _=>⟨b,o,v,hx,hkp,hv⟩,r⟩
theorem fR(Kp:Nat->Prop){id:Nat}{a:Act}{w:World}{l:List Oper}(hm:P.follows .mixedOrders=G6)(hB:Eh P l=G6)
 (h:wpX Kp P l.toArray (Exit.then (fun a' w'=>fin P l.toArray a'=G6/\io Kp (sv P l) l.toArray w.drew a' l 0/\Q .normal a' w') (fun _ _ _=>False)) l a w.drew):(Code.region id l.toArray G6).wp P Q a w:=by
 simp only[Eh,Ik]at hB;obtain⟨⟨⟨⟨h1,h2⟩,h3⟩,_⟩,h5⟩:=hB;refine wp_region_any hm (iP (Q':=Exit.then (fun a' w'=>fin P l.toArray a'=G6/\io Kp (sv P l) l.toArray w.drew a' l 0/\Q .normal a' w') (fun _ _ _=>False)) (fun e a w hx=>?_) _ _ _ _ ?_)
 ·cases e<;>first|exact hx.2.2|exact hx.elim
 ·have:=np (P:=P) (md:=.any) (l0:=l) (lf:=sv P l) (w0:=w.drew) lz
   (fun a' w' (hx:fin P l.toArray a'=G6/\io Kp (sv P l) l.toArray w.drew a' l 0/\Q .normal a' w')=>⟨hx.1,fun k o hk hb hw=>sw l 0 hx.2.1 k o (by simpa using hk) (by simpa using hb) hw⟩)
   (pB h2) (Cq h3) h1 l 0 (Array.replicate l.length G7) a w.drew (fun m o _ hm=>by simp[Array.getElem?_replicate]at hm;split at hm<;>simp at hm) (fun _=>Ext.refl _) ⟨by simp,fun j hj=>by simp⟩ (by simp) (by simp) h5 h
  exact jN _ _ _ _ (by simpa using this)
theorem Gn {a:Act}{w0:World}{lf:Nat}{l:List Oper}{R:Prop}(h:fin P ops a=G6)(h2:io Kp lf ops w0 a l 0)(k:R):fin P ops a=G6/\io Kp lf ops w0 a l 0/\R:=⟨h,h2,k⟩
end
end Go.LexK
