/- Walks and plain facts for the law on type variables, for all values and types that the heap holds (texts K1 B1 V1 M1). -/
import Derived.Deep.AppendSrc
import Derived.Deep.MidRow
import Derived.Test.YtfpahmeploondaaGreatDoorR03
import Derived.Test.YtfpahmeploondaaGreatDoorR04
set_option linter.unusedVariables false
set_option linter.unusedSimpArgs false
set_option maxHeartbeats 64000000
open Option renaming none -> G0, some -> G5
open Bool renaming true -> G6, false -> G7
open Go.Value renaming slice -> GU, string -> GW, int -> GX
open Go.Obj renaming cells -> GY
open Go.IntKind renaming i64 -> GZ
open List renaming length_eq_zero_iff -> Jy, all_eq_true -> Ij, getElem_mem -> Ip, any_eq_true -> Jw, map_cons -> IY, mem_map -> IW
open Nat renaming lt_of_lt_of_le -> Ig, eq_zero_or_pos -> JA, le_refl -> G8
open Go.Result renaming andThen_ok -> Ji
open Go.Lib renaming compareBytes -> Jx, compareInt -> Jt
open Bool renaming eq_iff_iff -> IQ
open Go.Builtin renaming append_ -> Jp
open Go.Sem renaming run_bind -> It
open Go.Op renaming bytesLess -> Ja
open Go.World renaming cell? -> Ic
namespace Go.Proofs.YtfpahmeploondaaGreatDoor
open Go.RowKit Go.Ident
theorem wn(s:ByteArray):s.data.toList=s.toList:=(ByteArray.toList_eq s).symm
theorem ml {w a:World}(h:Below w.heap.size w a)(o:Obj):Below w.heap.size w (a.alloc o):=h.alloc h.size o
theorem zE(a:List UInt8):∀b,Jx a b=if Ja a b then -1 else if Ja b a then 1 else 0:=by
 induction a with
 |nil=>intro b;cases b<;>simp[Jx,Ja]
 | cons x r ih =>
   intro b;cases b with
   |nil=>simp[Jx,Ja]
   | cons y q =>
     simp only[Jx,Ja];by_cases h1:x<y
     ·simp[h1]
     ·by_cases h2:y<x
      ·have hne:x≠y:=by rintro rfl;exact h1 h2
       simp[h1,h2,hne]
      ·have he:x=y:=UInt8.le_antisymm (UInt8.not_lt.1 h2) (UInt8.not_lt.1 h1);subst he;simp[h1,ih]
theorem zF(a:List UInt8):∀b,(!(Ja a b||a==b))=Ja b a:=by
 induction a with
 |nil=>intro b;cases b<;>simp[Ja]
 | cons x r ih =>
   intro b;cases b with
   |nil=>simp[Ja]
   | cons y q =>
     simp only[Ja];by_cases h1:x<y
     ·have h2: ¬y<x:=fun h=>by rw[UInt8.lt_iff_toNat_lt]at h h1;omega
      have hne:y≠x:=by rintro rfl;exact h2 h1
      simp[h1,h2,hne]
     ·by_cases h2:y<x
      ·have hne:x≠y:=by rintro rfl;exact h1 h2
       simp[h1,h2,hne]
      ·have he:x=y:=UInt8.le_antisymm (UInt8.not_lt.1 h2) (UInt8.not_lt.1 h1);subst he;simpa[h1]using ih q
theorem nE(w:World)(a b:ByteArray):(binOp .gtr 9 (GW a) (GW b)).run Tryz.prog w=.ok (.bool (Ja b.toList a.toList)) w:=by
 rw[<-zF];simp[binOp,Op.stringOp]
set_option maxRecDepth 100000 in
theorem pD(x y:Int)(w:World):Calls Tryz.prog 104 #[GX GZ x,GX GZ y] w fun e w'=>e=.returned (GX GZ (Jt x y))/\w'=w:=by
 unfold Jt;by_cases h1:x<y
 ·rw[if_pos h1];go_enter Tryz.func104,Tryz.ntmps104;go_wp2;go_ret;exact⟨rfl,rfl⟩
 ·rw[if_neg h1];by_cases h2:x>y
  ·rw[if_pos h2];go_enter Tryz.func104,Tryz.ntmps104;go_wp2;go_ret;exact⟨rfl,rfl⟩
  ·rw[if_neg h2];go_enter Tryz.func104,Tryz.ntmps104;go_wp2;go_ret;exact⟨rfl,rfl⟩
set_option maxRecDepth 100000 in
theorem sC(a b:ByteArray)(w:World):Calls Tryz.prog 105 #[GW a,GW b] w fun e w'=>e=.returned (GX GZ (Jx a.data.toList b.data.toList))/\w'=w:=by
 have hgt:=nE (a:=a) (b:=b);rw[zE,wn,wn];cases h1:Ja a.toList b.toList with
 | true =>
   go_enter Tryz.func105,Tryz.ntmps105;go_wp2;go_ret;exact⟨rfl,rfl⟩
 | false =>
   cases h2:Ja b.toList a.toList with
   | true =>
     have d:=zF a.toList b.toList;rw[h1,h2,Bool.false_or]at d;have d':=congrArg (fun b=> !b) d;simp only[Bool.not_not]at d';rw[h2]at hgt;go_enter Tryz.func105,Tryz.ntmps105;go_wp2;go_ret;exact⟨rfl,rfl⟩
   | false =>
     have d:=zF a.toList b.toList;rw[h1,h2,Bool.false_or]at d;have d':=congrArg (fun b=> !b) d;simp only[Bool.not_not]at d';rw[h2]at hgt;go_enter Tryz.func105,Tryz.ntmps105;go_wp2;go_ret;exact⟨rfl,rfl⟩
def ckP(k:Int)(t:List UInt8)(k2:Int)(t2:List UInt8):Int:=if k<k2 then -1 else if k>k2 then 1 else Jx t t2
set_option maxRecDepth 100000 in
theorem mA(k:Int)(t:ByteArray)(k2:Int)(t2:ByteArray)(w:World):Calls Tryz.prog 121 #[.agg #[GX GZ k,GW t],.agg #[GX GZ k2,GW t2]] w fun e w'=>e=.returned (GX GZ (ckP k t.data.toList k2 t2.data.toList))/\Below w.heap.size w w':=by
 have H2:=zH (ml ((Below.refl w.heap.size w).alloc (G8 _) (GY #[GX GZ k,GW t] 103)) (GY #[GX GZ k2,GW t2] 103));have hC:=Tryz.cmp_Compare_int k k2;have hS:=Tryz.strings_Compare t t2;have hcm:ckP k t.data.toList k2 t2.data.toList=if Jt k k2=0 then Jx t.data.toList t2.data.toList else Jt k k2:=by
  unfold ckP Jt;split
  ·simp
  ·split<;>simp
 rw[hcm];clear hcm;by_cases h0:Jt k k2=0
 ·rw[if_pos h0];rw[h0]at hC;clear h0;generalize Jx t.data.toList t2.data.toList=c at*
  go_enter Tryz.func121,Tryz.ntmps121;go_wp2_with(first
   |(go_at_call 141;refine(hC _).mono ?_;rintro e w1 ⟨rfl,rfl⟩)
   |(go_at_call 142;refine(hS _).mono ?_;rintro e w1 ⟨rfl,rfl⟩))
  go_ret;exact⟨rfl,H2.o⟩
 ·rw[if_neg h0];have d0:(Jt k k2 !=0)=true:=by simpa using h0
  clear h0;generalize Jt k k2=c at*
  go_enter Tryz.func121,Tryz.ntmps121;go_wp2_with(first
   |(go_at_call 141;refine(hC _).mono ?_;rintro e w1 ⟨rfl,rfl⟩))
  go_ret;exact⟨rfl,H2.o⟩
set_option maxRecDepth 100000 in
theorem jS(k:Int)(t:ByteArray)(k2:Int)(t2:ByteArray)(w:World):Calls Tryz.prog 98 #[.agg #[GX GZ k,GW t],.agg #[GX GZ k2,GW t2]] w fun e w'=>e=.returned (GX GZ (ckP k t.data.toList k2 t2.data.toList))/\Below w.heap.size w w':=by
 have H2:=zH (ml ((Below.refl w.heap.size w).alloc (G8 _) (GY #[GX GZ k,GW t] 103)) (GY #[GX GZ k2,GW t2] 103));have hC:=pD k k2;have hS:=sC t t2;by_cases h0:k=k2
 ·have hcm:ckP k t.data.toList k2 t2.data.toList=Jx t.data.toList t2.data.toList:=by
   unfold ckP;rw[if_neg (by omega),if_neg (by omega)]
  rw[hcm];have d0:(k !=k2)=false:=by simpa using h0
  clear hcm h0;generalize Jx t.data.toList t2.data.toList=c at*
  go_enter Tryz.func98,Tryz.ntmps98;go_wp2_with(first
   |(go_at_call 105;refine(hS _).mono ?_;rintro e w1 ⟨rfl,rfl⟩))
  go_ret;exact⟨rfl,H2.o⟩
 ·have hcm:ckP k t.data.toList k2 t2.data.toList=Jt k k2:=by
   unfold ckP Jt;split
   ·rfl
   ·rw[if_pos (by omega),if_pos (by omega)]
  rw[hcm];have d0:(k !=k2)=true:=by simpa using h0
  clear hcm h0;generalize Jt k k2=c at*
  go_enter Tryz.func98,Tryz.ntmps98;go_wp2_with(first
   |(go_at_call 104;refine(hC _).mono ?_;rintro e w1 ⟨rfl,rfl⟩))
  go_ret;exact⟨rfl,H2.o⟩
theorem mI:∀a b:List UInt8,iR a b=Jx a b
 |[],[]=>rfl
 |[],_::_=>rfl
 |_::_,[]=>rfl
 |x::r,y::s=>by simp only[iR,Jx,mI r s]
theorem Cr(x y:Int):bY x y=Jt x y:=by unfold bY Jt;(repeat' split)<;>first|rfl|omega
theorem ws(a b:KK):bN a b=ckP a.kind a.text.data.toList b.kind b.text.data.toList:=by
 unfold bN nz bY ckP bD;rw[mI]
 (repeat' split)<;>first|rfl|omega
theorem zG(a b:KK)(w:World):Calls Tryz.prog 121 #[.agg #[GX GZ a.kind,GW a.text],.agg #[GX GZ b.kind,GW b.text]] w fun e w'=>e=.returned (GX GZ (bN a b))/\Below w.heap.size w w':=by
 rw[ws];exact mA a.kind a.text b.kind b.text w
theorem jl(a b:KK)(w:World):Calls Tryz.prog 98 #[.agg #[GX GZ a.kind,GW a.text],.agg #[GX GZ b.kind,GW b.text]] w fun e w'=>e=.returned (GX GZ (bN a b))/\Below w.heap.size w w':=by
 rw[ws];exact jS a.kind a.text b.kind b.text w
theorem pE(a b:ByteArray)(w:World):Calls Tryz.prog 105 #[GW a,GW b] w fun e w'=>e=.returned (GX GZ (bD a b))/\w'=w:=by
 unfold bD;rw[mI];exact sC a b w
theorem nF(x y:Int)(w:World):Calls Tryz.prog 104 #[GX GZ x,GX GZ y] w fun e w'=>e=.returned (GX GZ (bY x y))/\w'=w:=by
 rw[Cr];exact pD x y w
set_option maxRecDepth 100000 in
theorem gQ(x y:Int)(w:World):Calls Tryz.prog 103 #[GX GZ x,GX GZ y] w fun e w'=>e=.returned (GX GZ (bY x y))/\w'=w:=by
 have h:=nF x y;go_enter Tryz.func103,Tryz.ntmps103;go_wp2_with(go_at_call 104;refine(h _).mono ?_;rintro e w1 ⟨rfl,rfl⟩);go_ret;exact⟨rfl,rfl⟩
open Go.RowKit
set_option maxRecDepth 100000
theorem add_none(b o i:Nat):(⟨b,o,G0⟩:Addr).add i=⟨b,o+i,G0⟩:=by
 unfold Addr.add;split
 ·rename_i h;subst h;rfl
 ·rfl
def RC(w:World)(size:Nat)(A:Option Addr)(n:Nat)(cs:List Value):Prop:=
 cs.length=n*size/\(0<n->∃a o,A=G5 ⟨a,o,G0⟩/\a<w.heap.size/\∀(j:Nat) (u:Value),cs[j]? =G5 u->w.cell? ⟨a,o+j,G0⟩=G5 u)
theorem RC.nil(w:World)(size:Nat)(A:Option Addr):RC w size A 0 []:=⟨by simp,fun h=>by omega⟩
theorem RC.below {w w':World}{size n:Nat}{A:Option Addr}{cs:List Value}(h:RC w size A n cs)(hb:Below w.heap.size w w'):RC w' size A n cs:=
 ⟨h.1, fun hn => by
   obtain⟨a,o,h1,h2,h3⟩:=h.2 hn;exact⟨a,o,h1,Ig h2 hb.size,fun j u hu=>(hb.cell (p:=⟨a,_,G0⟩) h2).trans (h3 j u hu)⟩⟩
theorem RC.fr {w w':World}{size n:Nat}{A:Option Addr}{cs:List Value}(h:RC w size A n cs)(hs:w.heap.size<=w'.heap.size)(hb:∀a o,A=G5 ⟨a,o,G0⟩->0<n->w'.heap[a]? =w.heap[a]?):RC w' size A n cs:=
 ⟨h.1, fun hn => by
   obtain⟨a,o,h1,h2,h3⟩:=h.2 hn;exact⟨a,o,h1,Ig h2 hs,fun j u hu=>(cell_at (hb a o h1 hn)).trans (h3 j u hu)⟩⟩
theorem RC.row {w:World}{size n g:Nat}{e:TypeId}{cs:List Value}{arr:Array Value}(hl:cs.length=n*size)(hg:w.heap[g]? =G5 (.cells arr e))(h:∀(j:Nat) (u:Value),cs[j]? =G5 u->arr[j]? =G5 u):RC w size (G5 ⟨g,0,G0⟩) n cs:=
 ⟨hl,fun _=>⟨g,0,rfl,ai hg,fun j u hu=>by simp[Ic,hg,h j u hu]⟩⟩
theorem RC.of_own {w:World}{B n size cap:Nat}{e:TypeId}{p:Option Addr}{xs:List Value}(h:w.ownsRow B e size (GU p n cap) n xs):RC w size p n xs:=by
 refine⟨h.1,fun hn=>?_⟩;obtain⟨g,rfl⟩:=kB h hn;refine⟨g,0,rfl,(h.lt g rfl).2,fun j u hu=>?_⟩;have:=h.cells (g:=g) rfl j u hu;rw[show(⟨g,0,G0⟩:Addr).add j=⟨g,0+j,G0⟩from add_none g 0 j]at this;exact this
def RT(w:World)(e:TypeId)(size:Nat)(A:Option Addr)(n:Nat)(cs:List Value):Prop:=
 cs.length=n*size/\(0<n->∃(a o:Nat) (arr:Array Value),A=G5 ⟨a,o,G0⟩/\w.heap[a]? =G5 (.cells arr e)/\∀(j:Nat) (u:Value),cs[j]? =G5 u->arr[o+j]? =G5 u)
theorem RT.nil(w:World)(e:TypeId)(size:Nat)(A:Option Addr):RT w e size A 0 []:=⟨by simp,fun h=>by omega⟩
theorem RT.rc {w:World}{e:TypeId}{size n:Nat}{A:Option Addr}{cs:List Value}(h:RT w e size A n cs):RC w size A n cs:=
 ⟨h.1, fun hn => by
   obtain⟨a,o,arr,h1,h2,h3⟩:=h.2 hn;exact⟨a,o,h1,ai h2,fun j u hu=>by simp[Ic,h2,h3 j u hu]⟩⟩
theorem RT.keep {w w':World}{e:TypeId}{size n:Nat}{A:Option Addr}{cs:List Value}(h:RT w e size A n cs)(hb:∀(a:Nat) (arr:Array Value),w.heap[a]? =G5 (.cells arr e)->w'.heap[a]? =w.heap[a]?):RT w' e size A n cs:=
 ⟨h.1, fun hn => by
   obtain⟨a,o,arr,h1,h2,h3⟩:=h.2 hn;exact⟨a,o,arr,h1,(hb a arr h2).trans h2,h3⟩⟩
theorem RT.below {w w':World}{e:TypeId}{size n:Nat}{A:Option Addr}{cs:List Value}(h:RT w e size A n cs)(hb:Below w.heap.size w w'):RT w' e size A n cs:=h.keep fun a arr ha=>hb.block a (ai ha)
theorem Ej {P:Program}{size:Nat}{t e:TypeId}(ht:P.underlying t=G5 (.slice e)){w:World}{A:Option Addr}{m c:Nat}{news:List Value}(h:RC w size A m news)(h1:∀u∈news,u.oneCell'=G6):Src P size t (GU A m c) m news w:=by
 cases A with
 | none =>
   have hm:m=0:=by
    rcases JA m with h0|h0
    ·exact h0
    ·obtain⟨a,o,e1,_⟩:=h.2 h0;cases e1
   subst hm;have hl:news=[]:=Jy.1 (by have:=h.1;omega);subst hl;exact Src.ofNil w ht c
 | some ad =>
   refine Src.ofSlice w ht ad m c news h.1 ?_ h1;intro j u hu;have h0:0<m:=by
    rcases JA m with h0|h0
    ·have:=h.1;rw[h0,Nat.zero_mul]at this;rw[List.getElem?_eq_none (by omega)]at hu;cases hu
    ·exact h0
   obtain⟨a,o,e1,_,h3⟩:=h.2 h0;cases e1;rw[add_none];exact h3 j u hu
theorem mB {P:Program}(w:World)(t tx ty e:TypeId)(i:TypeInfo)(ht:P.underlying t=G5 (.slice e))(hi:P.info? e=G5 i)(A:Option Addr)(n c:Nat)(hnc:n<=c)(x:Value)(hs:Src P i.size tx x 0 [] w):
 (Jp #[t,tx] ty #[GU A n c,x]).run P w=.ok (GU A n c) w:=by
 have h1:=hs.cells;cases A<;>rcases hs.kind with⟨e',hk⟩|hk<;>simp[Jp,run_underlying ht,run_underlying hk,sizeOf,typeInfo,hi,hs.len,hnc,h1,storeCells]
theorem aC {P:Program}{ops:Array Oper}{rest:List Oper}{o:Oper}{a:Act}{Q:Exit->Act->World->Prop}(hgd:o.guard=G0)(s x:Operand)(t:TypeId)
 (ho:o.op=.call {callee:=.builtin .append,args:= #[s,x],argTypes:= #[t,t]}) (e:TypeId) (ht:P.underlying t=G5 (.slice e)) {z:Value} {size bytes:Nat}
 (hinfo:(P.info? e).map (fun i=>(i.zero,i.size,i.bytes))=G5 (G5 z,size,bytes)) (hzs:z.cells.size=size) (hsz:0<size) (hby:bytes<=1048576)
 (B:Nat) (wx:World) (A2:Option Addr) (n m c2:Nat) (xs news:List Value) (hB:B<=wx.heap.size) (v:Value) (hs:a.eval s=v) (hx:a.eval x=GU A2 m c2) (hown:wx.ownsRow B e size v n xs) (h2:RC wx size A2 m news) (hone:∀u∈news,u.oneCell'=G6)
 (hbound:n+m<=67108864)
 (h:∀v' w',w'.ownsRow B e size v' (n+m) (xs++news)->Fr [] v v' wx w'->wpList P ops Q rest (a.put o.dst v') w'):
 wpList P ops Q (o::rest) a wx:=by
 obtain⟨i,hi,hz,rfl,rfl⟩:=info_parts hinfo;refine wpList_plain hgd fun K hK=>?_
 by_cases hm:m=0
 ·subst hm;have hl:news=[]:=Jy.1 (by have:=h2.1;omega);subst hl;obtain⟨p,cap,rfl⟩:=aB hown;have hnc:n<=cap:=by
   rcases hown.2 with⟨e1,h0⟩|⟨g,cap',cur,e1,_,_,h3,_⟩
   ·omega
   ·cases e1;exact h3
  have hr:=mB (P:=P) wx t t o.type e i ht hi p n cap hnc _ (Ej (c:=c2) ht h2 hone);unfold Oper.wp execOp;simp only[ho,resolve,invoke,builtin,It,Sem.run_pure,Ji,List.map_toArray,IY,List.map_nil,hs,hx,hr];exact hK _ _ (h _ wx (by simpa using hown) (Fr.refl _ _ _))
 ·obtain⟨b,off,rfl,hb,hcell⟩:=h2.2 (by omega);have hc:∀(j:Nat) (u:Value),news[j]? =G5 u->wx.cell? ((⟨b,off,G0⟩:Addr).add j)=G5 u:=fun j u hu=>by rw[add_none];exact hcell j u hu
  have hmb:(n+m)*i.bytes<=140737488355328:=Nat.le_trans (Nat.mul_le_mul hbound hby) (by decide);obtain⟨v',w',hr,h3,h4,_⟩:=run_append_own (P:=P) wx B t o.type e i z i.size i.bytes ht hi hz rfl rfl hzs hsz v n xs hown ⟨b,off,G0⟩ m c2 news h2.1 hc hone (by unfold maxLen;omega) hmb hB;have hw:v'.ownBlock=v.ownBlock\/∀g,v'.ownBlock=G5 g->wx.heap.size<=g:=kC (P:=P) wx B t o.type e i z ht hi hz v n xs hown ⟨b,off,G0⟩ m c2 news h2.1 hc hone (by omega) (by unfold maxLen;omega) hmb hr;unfold Oper.wp execOp;simp only[ho,resolve,invoke,builtin,It,Sem.run_pure,Ji,List.map_toArray,IY,List.map_nil,hs,hx,hr];exact hK _ _ (h v' w' h3 (Fr.of_grown h4 hw))
def ic(xs:List Int):List Value:=xs.map fun x=>GX GZ x
theorem nG(xs:List Int):(ic xs).length=xs.length:=by simp[ic]
theorem uP(xs:List Int):∀u∈ic xs,u.oneCell'=true:=fun u hu=>by
 obtain⟨x,_,rfl⟩:=IW.1 hu;rfl
def IS(w:World)(v:Value)(xs:List Int):Prop:=∃p c,v=GU p xs.length c/\xs.length<=c/\RC w 1 p xs.length (ic xs)
theorem IS.below {w w':World}{v:Value}{xs:List Int}(h:IS w v xs)(hb:Below w.heap.size w w'):IS w' v xs:=by
 obtain⟨p,c,h1,h2,h3⟩:=h;exact⟨p,c,h1,h2,h3.below hb⟩
theorem IS.nil(w:World):IS w (GU G0 0 0) []:=⟨G0,0,rfl,by simp,RC.nil _ _ _⟩
theorem IS.at {w:World}{p:Option Addr}{n c:Nat}{xs:List Int}(h:IS w (GU p n c) xs){k:Nat}(hk:k<xs.length):n=xs.length/\∃a o,p=G5 ⟨a,o,G0⟩/\a<w.heap.size/\w.cell? ⟨a,o+k,G0⟩=G5 (GX GZ xs[k]):=by
 obtain⟨p',c',h1,h2,h3⟩:=h;simp only[GU.injEq]at h1;obtain⟨rfl,rfl,rfl⟩:=h1;obtain⟨a,o,e1,e2,e3⟩:=h3.2 (by omega);exact⟨rfl,a,o,e1,e2,e3 k _ (by simp[ic,hk])⟩
def I3(w:World)(v:Value)(xs:List Int):Prop:=∃p c,v=GU p xs.length c/\xs.length<=c/\RT w 3 1 p xs.length (ic xs)
theorem I3.is {w:World}{v:Value}{xs:List Int}(h:I3 w v xs):IS w v xs:=by obtain⟨p,c,h1,h2,h3⟩:=h;exact⟨p,c,h1,h2,h3.rc⟩
theorem I3.keep {w w':World}{v:Value}{xs:List Int}(h:I3 w v xs)(hb:∀(a:Nat) (arr:Array Value),w.heap[a]? =G5 (.cells arr 3)->w'.heap[a]? =w.heap[a]?):I3 w' v xs:=by obtain⟨p,c,h1,h2,h3⟩:=h;exact⟨p,c,h1,h2,h3.keep hb⟩
theorem I3.below {w w':World}{v:Value}{xs:List Int}(h:I3 w v xs)(hb:Below w.heap.size w w'):I3 w' v xs:=h.keep fun a arr ha=>hb.block a (ai ha)
theorem I3.nil(w:World):I3 w (GU G0 0 0) []:=⟨G0,0,rfl,by simp,RT.nil _ _ _ _⟩
theorem Cs {w:World}{B n b size:Nat}{e:TypeId}{v:Value}{xs:List Value}{cs:Array Value}{t:TypeId}{fr:Nat×Nat}(h:w.ownsRow B e size v n xs)(hb:w.heap[b]? =G5 (.cells cs t fr))(ht:t≠e):v.ownBlock≠G5 b:=fun e1=>by
 rcases h.2 with⟨rfl,_⟩|⟨g,cap,cur,rfl,h4,h5,_⟩
 ·cases e1
 ·cases e1;rw[h5]at hb;simp at hb;exact ht hb.2.1.symm
open Go.Ident
structure FF where
 key:KK
 node:Int
 opt:Bool
structure TN where
 kind:Int
 lo:Int
 hi:Int
 text:ByteArray
 kids:List Int
 fields:List FF
 rest0:Int
 rest1:Int
structure Ty where
 nodes:List TN
 root:Int
def sD:TN:=⟨0,0,0,aQ,[],[],0,0⟩
def Ty.len(T:Ty):Nat:=T.nodes.length
def Ty.node(T:Ty)(k:Int):TN:=T.nodes.getD k.toNat sD
def Ty.has(T:Ty)(k:Int):Bool:=decide (0<=k)&&decide (k<(T.len:Int))
def TN.bool(n:TN):Bool:=decide (n.kind=16)||decide (n.kind=17)||decide (n.kind=18)
theorem Ty.node_at {T:Ty}{i:Nat}(h:i<T.nodes.length):T.node (i:Int)=T.nodes[i]:=by simp[Ty.node,h]
theorem has_iff {T:Ty}{k:Int}:T.has k=G6<->0<=k/\k<(T.len:Int):=by simp[Ty.has]
def nH(k:Int):Bool:=decide (k=10)||decide (k=12)||decide (k=14)||decide (k=16)||decide (k=17)||decide (k=18)
def jF(k:Int):Bool:=decide (k=4)||decide (k=6)||decide (k=19)
def bR(n:TN):Bool:=
 (decide (n.kind=3)||(decide (n.lo=0)&&decide (n.hi=0)))&&(jF n.kind||decide (n.text.size=0))&&(nH n.kind||n.kids.isEmpty)&&
 (decide (n.kind=13)||(n.fields.isEmpty&&(decide (n.rest0=0)&&decide (n.rest1=0))))
def bW(l:List FF):Bool:=bV bN (l.map FF.key)&&l.all fun f=>dq f.key.kind f.key.text.data.toList
def bj(n:TN):Bool:=
 if n.kind=3 then decide (n.lo<=n.hi)else if n.kind=4 then decide (n.text.size<=64)else if n.kind=6 then eb n.text.data.toList else if n.kind=19 then dG n.text.data.toList
 else if n.kind=10 then decide (n.kids.length<=4)else if n.kind=12 then decide (n.kids.length=2)else if n.kind=13 then bW n.fields
 else if n.kind=14 then decide (1<=n.kids.length)&&decide (n.kids.length<=5)else if n.kind=16\/n.kind=17 then decide (1<=n.kids.length)else if n.kind=18 then decide (n.kids.length=1)
 else decide (1<=n.kind)&&decide (n.kind<=15)
def bq(n:TN):List Int:=n.kids++(n.fields.map FF.node++if n.kind=13 then[n.rest0,n.rest1]else[])
def bB(T:Ty)(n:TN):Bool:=bR n&&bj n&&(bq n).all T.has
def RkT(T:Ty)(rk:Nat->Nat):Prop:=∀i,i<T.len->(T.node (i:Nat)).bool=G6->∀k∈(T.node (i:Nat)).kids,rk k.toNat<rk i
def Ctr(T:Ty):Prop:=∃rk,RkT T rk
structure WfT(T:Ty):Prop where
 root:T.has T.root=G6
 nodes:∀n∈T.nodes,bB T n=G6
 ctr:Ctr T
def atN(n:TN)(k:KK):Int:=
 match n.fields.find? fun f=>decide (f.key=k)with
 |some f=>f.node
 |none=>if k.kind=0 then n.rest0 else n.rest1
def fi(sub:VV->Int->Bool)(l:List VV)(ks:List Int):Bool:=decide (l.length=ks.length)&&(l.zip ks).all fun p=>sub p.1 p.2
def gR(sub:VV->Int->Bool)(ks:List Int)(e:EE):Bool:= !fi sub e.args (ks.take (ks.length-1))||(!e.fails&&sub e.res (ks.getD (ks.length-1) 0))
def mapA(sub:VV->Int->Bool)(v:VV)(n:TN):Bool:=
 (n.fields.all fun f=>f.opt||v.keys.any fun k=>decide (k=f.key))&&(v.keys.zip v.kids).all fun p=>sub p.2 (atN n p.1)
def iT(sub:VV->Int->Bool)(v:VV)(n:TN):Bool:=decide (v.num=(n.kids.length:Int)-1)&&v.ents.all (gR sub n.kids)
def wt(k:Int):Int:=if k=5 then 2 else if k=7 then 3 else if k=8 then 4 else if k=9 then 5 else if k=11 then 6 else 9
def ed(sub:VV->Int->Bool)(v:VV)(same:Int->Bool)(n:TN):Bool:=
 if n.kind=2 then G6 else if n.kind=3 then decide (v.kind=1)&&(decide (n.lo<=v.num)&&decide (v.num<=n.hi))
 else if n.kind=4 then decide (v.kind=2)&&decide (v.text=n.text)else if n.kind=6 then decide (v.kind=3)&&decide (v.text=n.text)
 else if n.kind=5\/n.kind=7\/n.kind=8\/n.kind=9\/n.kind=11\/n.kind=15 then decide (v.kind=wt n.kind)
 else if n.kind=10 then decide (v.kind=6)&&fi sub v.kids n.kids else if n.kind=12 then decide (v.kind=7)&&fi sub v.kids n.kids
 else if n.kind=13 then decide (v.kind=8)&&mapA sub v n else if n.kind=14 then decide (v.kind=9)&&iT sub v n
 else if n.kind=16 then n.kids.any same else if n.kind=17 then n.kids.all same else if n.kind=18 then !same (n.kids.getD 0 0)
 else if n.kind=19 then v.labels.any fun s=>decide (s=n.text)else G7
def lC(T:Ty)(sub:VV->Int->Bool)(v:VV):Nat->Int->Bool
 |0,_=>G7
 |f+1,k=>ed sub v (lC T sub v f) (T.node k)
def Ct(T:Ty)(F:Nat):Nat->VV->Int->Bool
 |0,_,_=>G7
 |d+1,v,k=>lC T (Ct T F d) v F k
theorem iq(l:List Nat):∀b,b<=l.foldl max b/\∀x∈l,x<=l.foldl max b:=by
 induction l with
 |nil=>intro b;simp
 | cons y r ih =>
   intro b;have:=ih (max b y);refine⟨by simp only[List.foldl_cons];omega,fun x hx=>?_⟩;rcases List.mem_cons.1 hx with rfl|hx
   ·simp only[List.foldl_cons];omega
   ·exact this.2 x hx
open Classical in
noncomputable def kD(T:Ty):Nat:=if h:Ctr T then((List.range T.len).map h.choose).foldl max 0+1 else 0
noncomputable def mem(T:Ty)(v:VV)(k:Int):Bool:=Ct T (kD T) v.ht v k
theorem fuelT_gt {T:Ty}(h:Ctr T):∃rk,RkT T rk/\∀i,i<T.len->rk i<kD T:=by
 refine⟨h.choose,h.choose_spec,fun i hi=>?_⟩;unfold kD;rw[dif_pos h];have:=(iq ((List.range T.len).map h.choose) 0).2 (h.choose i) (IW.2 ⟨i,List.mem_range.2 hi,rfl⟩);omega
theorem nI {s t:VV->Int->Bool}{l:List VV}{ks:List Int}(h:∀x∈l,∀k,s x k=t x k):fi s l ks=fi t l ks:=by
 unfold fi;congr 1;rw[IQ,Ij,Ij];refine⟨fun g p hp=>?_,fun g p hp=>?_⟩
 ·rw[<-h p.1 (List.of_mem_zip hp).1];exact g p hp
 ·rw[h p.1 (List.of_mem_zip hp).1];exact g p hp
theorem uQ {s t:VV->Int->Bool}{ks:List Int}{e:EE}(h1:∀x∈e.args,∀k,s x k=t x k)(h2:∀k,s e.res k=t e.res k):gR s ks e=gR t ks e:=by
 unfold gR;rw[nI h1,h2]
theorem jT {s t:VV->Int->Bool}{v:VV}{a b:Int->Bool}{n:TN}(h:∀x,x.ht<v.ht->∀k,s x k=t x k)(h1:n.bool=G6->∀k∈n.kids,a k=b k)(h0:n.kind=18->0<n.kids.length):ed s v a n=ed t v b n:=by
 have e1:fi s v.kids n.kids=fi t v.kids n.kids:=nI fun x hx=>h x (fS hx)
 have e2:mapA s v n=mapA t v n:=by
  unfold mapA;congr 1;rw[IQ,Ij,Ij];refine⟨fun g p hp=>?_,fun g p hp=>?_⟩
  ·rw[<-h p.2 (fS (List.of_mem_zip hp).2)];exact g p hp
  ·rw[h p.2 (fS (List.of_mem_zip hp).2)];exact g p hp
 have e3:iT s v n=iT t v n:=by
  unfold iT;congr 1;have key:∀e∈v.ents,gR s n.kids e=gR t n.kids e:=fun e he=>
   uQ (fun x hx=>h x (Nat.lt_of_le_of_lt (gF hx) (ip he))) (h _ (Nat.lt_of_le_of_lt (gG e) (ip he)))
  rw[IQ,Ij,Ij];exact⟨fun g p hp=>by rw[<-key p hp];exact g p hp,fun g p hp=>by rw[key p hp];exact g p hp⟩
 have e4:n.kind=16->n.kids.any a=n.kids.any b:=fun hk=>by
  have:=h1 (by simp[TN.bool,hk]);rw[IQ,Jw,Jw];exact⟨fun⟨x,hx,g⟩=>⟨x,hx,by rw[<-this x hx];exact g⟩,fun⟨x,hx,g⟩=>⟨x,hx,by rw[this x hx];exact g⟩⟩
 have e5:n.kind=17->n.kids.all a=n.kids.all b:=fun hk=>by
  have:=h1 (by simp[TN.bool,hk]);rw[IQ,Ij,Ij];exact⟨fun g x hx=>by rw[<-this x hx];exact g x hx,fun g x hx=>by rw[this x hx];exact g x hx⟩
 have e6:n.kind=18->a (n.kids.getD 0 0)=b (n.kids.getD 0 0):=fun hk=>by
  have hl:=h0 hk;refine h1 (by simp[TN.bool,hk]) _ ?_;rw[List.getD_eq_getElem?_getD,List.getElem?_eq_getElem hl];exact Ip hl
 unfold ed;rw[e1,e2,e3];by_cases c16:n.kind=16
 ·simp[c16,e4 c16]
 by_cases c17:n.kind=17
 ·simp[c17,e5 c17]
 by_cases c18:n.kind=18
 ·have:=e6 c18;simp[c18];simpa using this
 simp only[c16,c17,c18,if_false]
structure WfM(T:Ty):Prop where
 one:∀i,i<T.len->(T.node (i:Nat)).kind=18->0<(T.node (i:Nat)).kids.length
 ctr:Ctr T
theorem Ty.node_cases(T:Ty)(k:Int):(T.node k=sD)\/(k.toNat<T.len/\T.node k=T.node (k.toNat:Nat)):=by
 by_cases h:k.toNat<T.len
 ·exact .inr ⟨h,rfl⟩
 ·refine .inl ?_;have:T.nodes[k.toNat]? =none:=by rw[List.getElem?_eq_none_iff];unfold Ty.len at h;omega
  simp[Ty.node,this]
theorem fO(s:VV->Int->Bool)(v:VV)(a:Int->Bool):ed s v a sD=false:=by simp[ed,sD]
theorem sE {T:Ty}(H:WfM T){s t:VV->Int->Bool}{v:VV}(h:∀x,x.ht<v.ht->∀k,s x k=t x k):∀f k,lC T s v f k=lC T t v f k:=by
 intro f
 induction f with
 |zero=>intro k;rfl
 | succ f ih =>
   intro k;show ed s v (lC T s v f) (T.node k)=ed t v (lC T t v f) (T.node k);rcases T.node_cases k with e|⟨hi,e⟩
   ·rw[e,fO,fO]
   ·rw[e];exact jT h (fun _ k _=>ih k) (H.one _ hi)
theorem yb {T:Ty}(H:WfM T){rk:Nat->Nat}(hr:RkT T rk){s:VV->Int->Bool}{v:VV}:∀f g k,(k.toNat<T.len->rk k.toNat<f/\rk k.toNat<g)->0<f->0<g->lC T s v f k=lC T s v g k:=by
 intro f
 induction f with
 |zero=>intro g k _ h;omega
 | succ f ih =>
   intro g k hk _ hg;obtain⟨g,rfl⟩:∃g',g=g'+1:=⟨g-1,by omega⟩
   show ed s v (lC T s v f) (T.node k)=ed s v (lC T s v g) (T.node k);rcases T.node_cases k with e|⟨hi,e⟩
   ·rw[e,fO,fO]
   ·rw[e];obtain⟨h1,h2⟩:=hk hi;refine jT (fun _ _ _=>rfl) (fun hb x hx=>?_) (H.one _ hi);have:=hr _ hi hb x hx;exact ih g x (fun _=>⟨by omega,by omega⟩) (by omega) (by omega)
theorem sF {T:Ty}(H:WfM T)(F:Nat):∀d e v k,v.ht<=d->v.ht<=e->Ct T F d v k=Ct T F e v k:=by
 intro d
 induction d with
 |zero=>intro e v k h;have:=fx v;omega
 | succ d ih =>
   intro e v k h1 h2;obtain⟨e,rfl⟩:∃e',e=e'+1:=⟨e-1,by have:=fx v;omega⟩
   exact sE H (fun x hx k=>ih e x k (by omega) (by omega)) F k
theorem yc {T:Ty}(h:Ctr T):0<kD T:=by unfold kD;rw[dif_pos h];omega
theorem nJ {T:Ty}(H:WfM T)(v:VV)(k:Int):mem T v k=ed (mem T) v (mem T v) (T.node k):=by
 obtain⟨rk,hr,hlt⟩:=fuelT_gt H.ctr;have hp:=fx v;have hF:=yc H.ctr;have key:∀k,mem T v k=lC T (mem T) v (kD T) k:=fun k=>by
  unfold mem;obtain⟨d,hd⟩:∃d,v.ht=d+1:=⟨v.ht-1,by omega⟩
  rw[hd];exact sE H (fun x hx k=>sF H _ _ _ _ _ (by omega) (G8 _)) _ _
 rw[key k];obtain⟨F,hF2⟩:∃F,kD T=F+1:=⟨kD T-1,by omega⟩
 have hk2:lC T (mem T) v (F+1) k=ed (mem T) v (lC T (mem T) v F) (T.node k):=rfl;rw[hF2,hk2];rcases T.node_cases k with e|⟨hi,e⟩
 ·rw[e,fO,fO]
 ·rw[e];refine jT (fun _ _ _=>rfl) (fun hb x hx=>?_) (H.one _ hi);rw[key x];have h1:=hr _ hi hb x hx;have h2:=hlt _ hi;exact yb H hr _ _ _ (fun h=>⟨by omega,hlt _ h⟩) (by omega) hF
theorem WfT.m {T:Ty}(h:WfT T):WfM T:=by
 refine⟨fun i hi hk=>?_,h.ctr⟩;have h1:=h.nodes (T.node (i:Nat)) (by rw[T.node_at hi];exact Ip hi);unfold bB bj at h1;simp[hk]at h1;omega
def Rw {α:Type}(w:World)(p:Option Addr)(c sz:Nat)(l:List α)(P:α->List Value->Prop):Prop:=
 (l.length<=c/\l.length<=9223372036854775807)/\∃cs,RC w sz p l.length cs/\∀i (h:i<l.length),P l[i] ((cs.drop (i*sz)).take sz)
theorem Rw.below {α:Type}{w w':World}{p:Option Addr}{c sz:Nat}{l:List α}{P P':α->List Value->Prop}(h:Rw w p c sz l P)(hb:Below w.heap.size w w')(hP:∀x cs,x∈l->P x cs->P' x cs):Rw w' p c sz l P':=by
 obtain⟨h1,cs,h2,h3⟩:=h;exact⟨h1,cs,h2.below hb,fun i hi=>hP _ _ (Ip hi) (h3 i hi)⟩
theorem Rw.big {α:Type}{w:World}{p:Option Addr}{c sz:Nat}{l:List α}{P:α->List Value->Prop}(h:Rw w p c sz l P):l.length<=9223372036854775807:=h.1.2
theorem Rw.mono {α:Type}{w:World}{p:Option Addr}{c sz:Nat}{l:List α}{P P':α->List Value->Prop}(h:Rw w p c sz l P)(hP:∀x cs,x∈l->P x cs->P' x cs):Rw w p c sz l P':=h.below (Below.refl _ _) hP
theorem Rw.nil {α:Type}(w:World)(p:Option Addr)(c sz:Nat)(P:α->List Value->Prop):Rw w p c sz [] P:=⟨by simp,[],RC.nil _ _ _,fun i h=>by simp at h⟩
theorem Rw.at {α:Type}{w:World}{p:Option Addr}{c sz:Nat}{l:List α}{P:α->List Value->Prop}(h:Rw w p c sz l P){i:Nat}(hi:i<l.length):
 ∃a o cs,p=G5 ⟨a,o,G0⟩/\a<w.heap.size/\cs.length=sz/\w.rangeAt a (o+i*sz) cs/\P l[i] cs:=by
 obtain⟨h1,cs,h2,h3⟩:=h;obtain⟨a,o,e1,e2,e3⟩:=h2.2 (by omega);have hl:=h2.1;have hle:(i+1)*sz<=l.length*sz:=Nat.mul_le_mul_right _ hi;rw[Nat.add_mul,Nat.one_mul]at hle;refine⟨a,o,_,e1,e2,by rw[List.length_take,List.length_drop];omega,fun j v hv=>?_,h3 i hi⟩;have:=e3 (i*sz+j) v (by
  rw[List.getElem?_take]at hv;split at hv
  ·rwa[List.getElem?_drop]at hv
  ·cases hv)
 rw[<-Nat.add_assoc]at this;exact this
theorem sG {w w':World}{a o:Nat}{cs:List Value}(hb:Below w.heap.size w w')(ha:a<w.heap.size)(h:w.rangeAt a o cs):w'.rangeAt a o cs:=fun j v hv=>(hb.cell (p:=⟨a,_,G0⟩) ha).trans (h j v hv)
theorem Rw.all {α:Type}{w:World}{p:Option Addr}{c sz:Nat}{l:List α}{P:α->List Value->Prop}(h:Rw w p c sz l P){i:Nat}(hi:i<l.length):
 ∃a o cs,p=G5 ⟨a,o,G0⟩/\a<w.heap.size/\cs.length=sz/\(∀w',Below w.heap.size w w'->w'.rangeAt a (o+i*sz) cs)/\P l[i] cs:=by
 obtain⟨a,o,cs,h1,h2,h3,h4,h5⟩:=h.at hi;exact⟨a,o,cs,h1,h2,h3,fun w' hb=>sG hb h2 h4,h5⟩
def KC(k:KK)(cs:List Value):Prop:=cs=[GX GZ k.kind,GW k.text]
def SC(s:ByteArray)(cs:List Value):Prop:=cs=[GW s]
def VS(w:World):Nat->VV->List Value->Prop
 |0,_,_=>False
 | d + 1, V, cs => ∃ p1 c1 p2 c2 p3 c3 p4 c4, cs = [GX GZ V.kind, GX GZ V.num, GW V.text, GU p1 V.kids.length c1, GU p2 V.keys.length c2, GU p3 V.ents.length c3, GU p4 V.labels.length c4] ∧
     Rw w p1 c1 7 V.kids (VS w d)/\Rw w p2 c2 2 V.keys KC/\
     Rw w p3 c3 9 V.ents (fun e cs=>∃pa ca rs,cs=(GU pa e.args.length ca):: .bool e.fails::rs/\Rw w pa ca 7 e.args (VS w d)/\VS w d e.res rs)/\Rw w p4 c4 1 V.labels SC
def ES(w:World)(d:Nat)(e:EE)(cs:List Value):Prop:=∃pa ca rs,cs=(GU pa e.args.length ca):: .bool e.fails::rs/\Rw w pa ca 7 e.args (VS w d)/\VS w d e.res rs
theorem VS.succ {w:World}{d:Nat}{V:VV}{cs:List Value}:VS w (d+1) V cs<->∃p1 c1 p2 c2 p3 c3 p4 c4,cs=[GX GZ V.kind,GX GZ V.num,GW V.text,GU p1 V.kids.length c1,GU p2 V.keys.length c2,GU p3 V.ents.length c3,GU p4 V.labels.length c4]/\
 Rw w p1 c1 7 V.kids (VS w d)/\Rw w p2 c2 2 V.keys KC/\Rw w p3 c3 9 V.ents (ES w d)/\Rw w p4 c4 1 V.labels SC:=Iff.rfl
theorem VS.below {w w':World}(hb:Below w.heap.size w w'):∀{d:Nat} {V:VV} {cs:List Value},VS w d V cs->VS w' d V cs:=by
 intro d
 induction d with
 |zero=>intro V cs h;exact h
 | succ d ih =>
   intro V cs h;obtain⟨p1,c1,p2,c2,p3,c3,p4,c4,e,h1,h2,h3,h4⟩:=h;refine⟨p1,c1,p2,c2,p3,c3,p4,c4,e,h1.below hb fun _ _ _ h=>ih h,h2.below hb fun _ _ _ h=>h,h3.below hb fun e cs _ h=>?_,h4.below hb fun _ _ _ h=>h⟩;obtain⟨pa,ca,rs,e1,e2,e3⟩:=h;exact⟨pa,ca,rs,e1,e2.below hb fun _ _ _ h=>ih h,ih e3⟩
theorem ES.below {w w':World}(hb:Below w.heap.size w w'){d:Nat}{e:EE}{cs:List Value}(h:ES w d e cs):ES w' d e cs:=by
 obtain⟨pa,ca,rs,e1,e2,e3⟩:=h;exact⟨pa,ca,rs,e1,e2.below hb fun _ _ _ h=>h.below hb,e3.below hb⟩
theorem VS.up {w:World}:∀{d e:Nat} {V:VV} {cs:List Value},VS w d V cs->d<=e->VS w e V cs:=by
 intro d
 induction d with
 |zero=>intro e V cs h;exact h.elim
 | succ d ih =>
   intro e V cs h hde;obtain⟨e,rfl⟩:∃e',e=e'+1:=⟨e-1,by omega⟩
   obtain⟨p1,c1,p2,c2,p3,c3,p4,c4,e1,h1,h2,h3,h4⟩:=h;refine⟨p1,c1,p2,c2,p3,c3,p4,c4,e1,h1.mono fun _ _ _ h=>ih h (by omega),h2,h3.mono fun e cs _ h=>?_,h4⟩;obtain⟨pa,ca,rs,e1,e2,e3⟩:=h;exact⟨pa,ca,rs,e1,e2.mono fun _ _ _ h=>ih h (by omega),ih e3 (by omega)⟩
theorem VS.len {w:World}{d:Nat}{V:VV}{cs:List Value}(h:VS w d V cs):cs.length=7:=by
 cases d with
 |zero=>exact h.elim
 |succ d=>obtain⟨p1,c1,p2,c2,p3,c3,p4,c4,rfl,_⟩:=h;rfl
def VW(w:World)(v:Value)(V:VV):Prop:=∃d cs,v=.agg cs.toArray/\VS w d V cs
theorem VW.below {w w':World}{v:Value}{V:VV}(h:VW w v V)(hb:Below w.heap.size w w'):VW w' v V:=by
 obtain⟨d,cs,e,h⟩:=h;exact⟨d,cs,e,h.below hb⟩
def FC(f:FF)(cs:List Value):Prop:=cs=[GX GZ f.key.kind,GW f.key.text,GX GZ f.node,.bool f.opt]
def NC(w:World)(n:TN)(cs:List Value):Prop:=∃p1 c1 p2 c2,cs=[GX GZ n.kind,GX GZ n.lo,GX GZ n.hi,GW n.text,GU p1 n.kids.length c1,GU p2 n.fields.length c2,GX GZ n.rest0,GX GZ n.rest1]/\
 IS w (GU p1 n.kids.length c1) n.kids/\Rw w p2 c2 4 n.fields FC
def TS(w:World)(v:Value)(T:Ty):Prop:=∃p c,v=.agg #[GU p T.nodes.length c,GX GZ T.root]/\Rw w p c 8 T.nodes (NC w)/\∀n∈T.nodes,n.kids.length<=9223372036854775807
theorem NC.below {w w':World}{n:TN}{cs:List Value}(h:NC w n cs)(hb:Below w.heap.size w w'):NC w' n cs:=by
 obtain⟨p1,c1,p2,c2,e,h1,h2⟩:=h;exact⟨p1,c1,p2,c2,e,h1.below hb,h2.below hb fun _ _ _ h=>h⟩
theorem TS.below {w w':World}{v:Value}{T:Ty}(h:TS w v T)(hb:Below w.heap.size w w'):TS w' v T:=by
 obtain⟨p,c,e,h,h2⟩:=h;exact⟨p,c,e,h.below hb fun _ _ _ h=>h.below hb,h2⟩
end Go.Proofs.YtfpahmeploondaaGreatDoor
