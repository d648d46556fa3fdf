/- Walks and plain facts for the law on type variables, for all values and types that the heap holds (texts Nc Shp V0 B0). -/
import Derived.Below
import Derived.Shelf.Small.Strs
import Derived.Shelf.Small.Wraps
import Derived.Test.YtfpahmeploondaaGreatDoorProg
import Derived.Test.YtfpahmeploondaaGreatDoorRows
import Derived.WalkKit
import Derived.WalkLawsBesides
import Derived.WalkSpells
import Derived.Deep.QuietTactic
import Derived.BigQuiet
import Derived.Lib.Hide
import Derived.Deep.DeepFit
import Derived.DeepKeys4
import Derived.Maps.OwnOps
import Derived.Maps.OwnSet
import Derived.Laws.Tables
import Derived.Laws.Rows
import Derived.Laws.AppendOwn
import Derived.Laws.AppendOwnNone
import Derived.OwnWalk
import Derived.Deep.DeepCutAuto
import Derived.Laws.EntriesVeiled
import Derived.Test.YtfpahmeploondaaGreatDoorR03
set_option linter.unusedVariables false
set_option linter.unusedSimpArgs false
set_option maxHeartbeats 64000000
open Option renaming none -> G0, some -> G5
open Bool renaming true -> G6, false -> G7
open Go.Value renaming slice -> GU, string -> GW, int -> GX
open Go.Obj renaming cells -> GY
open Go.IntKind renaming i64 -> GZ
open List renaming mem_cons -> Ix
open Nat renaming le_trans -> G9, le_refl -> G8
namespace Go.Proofs.YtfpahmeploondaaGreatDoor
open Go.RowKit Go.Ident
set_option maxRecDepth 100000 in
theorem kz(k:Int)(s:ByteArray)(w:World):Calls Tryz.prog 120 #[.agg #[GX GZ k,GW s]] w fun e w'=>e=.returned (.bool (dq k s.data.toList))/\Below w.heap.size w w':=by
 have hB:=(Below.refl w.heap.size w).alloc (G8 _) (GY #[GX GZ k,GW s] 103);have HB:=zH hB;clear hB;unfold dq;by_cases h0:k=0
 ·subst h0;go_enter Tryz.func120,Tryz.ntmps120;go_wp2_with(first
   |(go_at_call 12;refine(nu s _).mono ?_;rintro e w1 ⟨rfl,rfl⟩))
  go_ret;exact⟨rfl,HB.o⟩
 rw[if_neg h0];have d0:(k==0)=false:=by simpa using h0
 by_cases h1:k=1
 ·subst h1;rw[if_pos rfl];have hl:s.data.toList.length=s.size:=by show _=s.data.size;simp
  rw[hl];go_enter Tryz.func120,Tryz.ntmps120;go_wp2;go_ret;refine⟨?_,HB.o⟩;by_cases hs:s.size<=64
  ·simp[hs];omega
  ·simp[hs];omega
 rw[if_neg h1];have d1:(k==1)=false:=by simpa using h1
 go_enter Tryz.func120,Tryz.ntmps120;go_wp2;go_ret;exact⟨rfl,HB.o⟩
set_option maxRecDepth 100000 in
theorem eg(k:Int)(s:ByteArray)(w:World):Calls Tryz.prog 97 #[.agg #[GX GZ k,GW s]] w fun e w'=>e=.returned (.bool (dq k s.data.toList))/\Below w.heap.size w w':=by
 have hB:=(Below.refl w.heap.size w).alloc (G8 _) (GY #[GX GZ k,GW s] 103);have HB:=zH hB;clear hB;unfold dq;by_cases h0:k=0
 ·subst h0;rw[if_pos rfl];have t:=eb s.data.toList;cases hc:eb s.data.toList with
  | true =>
    have t:=eZ s;rw[hc]at t;go_enter Tryz.func97,Tryz.ntmps97;go_wp2_with(first
     |(go_at_call 96;refine(t _).mono ?_;rintro e w1 ⟨rfl,rfl⟩))
    go_ret;exact⟨rfl,HB.o⟩
  | false =>
    have t:=eZ s;rw[hc]at t;go_enter Tryz.func97,Tryz.ntmps97;go_wp2_with(first
     |(go_at_call 96;refine(t _).mono ?_;rintro e w1 ⟨rfl,rfl⟩))
    go_ret;exact⟨rfl,HB.o⟩
 rw[if_neg h0];have d0:(k==0)=false:=by simpa using h0
 by_cases h1:k=1
 ·subst h1;rw[if_pos rfl];have hl:s.data.toList.length=s.size:=by show _=s.data.size;simp
  rw[hl];go_enter Tryz.func97,Tryz.ntmps97;go_wp2;go_ret;refine⟨?_,HB.o⟩;by_cases hs:s.size<=64
  ·simp[hs];omega
  ·simp[hs];omega
 rw[if_neg h1];have d1:(k==1)=false:=by simpa using h1
 go_enter Tryz.func97,Tryz.ntmps97;go_wp2;go_ret;exact⟨rfl,HB.o⟩
end Go.Proofs.YtfpahmeploondaaGreatDoor
namespace Go.Proofs
def Tryz.lays106_ren:Go.Shelf.Ren:=⟨fun|106=>142|213=>161|265=>184|n=>n,fun|9=>9|3=>3|n=>n,fun|n=>n⟩
theorem Tryz.lays106:Go.Proofs.Lays.n106 Tryz.prog Tryz.lays106_ren:={
 mixed:=by kernel_rfl
 f106:=Tryz.func142.trans (congrArg some (by kernel_rfl))
 f213:=Tryz.func161.trans (congrArg some (by kernel_rfl))
 f265:=Tryz.func184.trans (congrArg some (by kernel_rfl))
 t3:=Tryz.underlying3
 a3:=Tryz.isAgg3
 z3:=Tryz.sizeOf3
 v3:=Tryz.zeroValue3
 t9:=Tryz.underlying9
 a9:=Tryz.isAgg9
 z9:=Tryz.sizeOf9
 v9:=Tryz.zeroValue9}
open Go.RowKit in
theorem Tryz.strings_Compare(a b:ByteArray)(w:World):
 Calls Tryz.prog 142 #[.string a,.string b] w fun e w'=>e=.returned (.int .i64 (Lib.compareBytes a.data.toList b.data.toList))/\w'=w:=Any.strings_Compare Tryz.lays106 a b w
def Tryz.lays122_ren:Go.Shelf.Ren:=⟨fun|122=>141|215=>160|n=>n,fun|3=>3|4=>4|n=>n,fun|n=>n⟩
theorem Tryz.lays122:Go.Proofs.Lays.n122 Tryz.prog Tryz.lays122_ren:={
 mixed:=by kernel_rfl
 f122:=Tryz.func141.trans (congrArg some (by kernel_rfl))
 f215:=Tryz.func160.trans (congrArg some (by kernel_rfl))
 t3:=Tryz.underlying3
 a3:=Tryz.isAgg3
 z3:=Tryz.sizeOf3
 v3:=Tryz.zeroValue3
 t4:=Tryz.underlying4
 a4:=Tryz.isAgg4
 z4:=Tryz.sizeOf4
 v4:=Tryz.zeroValue4}
open Go.RowKit in
theorem Tryz.cmp_Compare_int(x y:Int)(w:World):
 Calls Tryz.prog 141 #[.int .i64 x,.int .i64 y] w fun e w'=>e=.returned (.int .i64 (Lib.compareInt x y))/\w'=w:=Any.cmp_Compare_int Tryz.lays122 x y w
end Go.Proofs
namespace Go.Proofs.YtfpahmeploondaaGreatDoor
open Go.Ident
structure KK where
 kind:Int
 text:ByteArray
 deriving DecidableEq
mutual
inductive VV where
 |mk (kind num:Int) (text:ByteArray) (kids:List VV) (keys:List KK) (ents:List EE) (labels:List ByteArray)
inductive EE where
 |mk (args:List VV) (fails:Bool) (res:VV)
end
def VV.kind:VV->Int| .mk k _ _ _ _ _ _=>k
def VV.num:VV->Int| .mk _ n _ _ _ _ _=>n
def VV.text:VV->ByteArray| .mk _ _ t _ _ _ _=>t
def VV.kids:VV->List VV| .mk _ _ _ l _ _ _=>l
def VV.keys:VV->List KK| .mk _ _ _ _ l _ _=>l
def VV.ents:VV->List EE| .mk _ _ _ _ _ l _=>l
def VV.labels:VV->List ByteArray| .mk _ _ _ _ _ _ l=>l
def EE.args:EE->List VV| .mk a _ _=>a
def EE.fails:EE->Bool| .mk _ f _=>f
def EE.res:EE->VV| .mk _ _ r=>r
def aQ:ByteArray:=⟨#[]⟩
def zeroV:VV:=.mk 0 0 aQ [] [] [] []
mutual
def VV.ht:VV->Nat
 | .mk _ _ _ kids _ ents _=>max (htVs kids) (htEs ents)+1
def EE.ht:EE->Nat
 | .mk args _ res=>max (htVs args) res.ht
def htVs:List VV->Nat
 |[]=>0
 |x::r=>max x.ht (htVs r)
def htEs:List EE->Nat
 |[]=>0
 |x::r=>max x.ht (htEs r)
end
theorem nB:∀{l:List VV} {x:VV},x∈l->x.ht<=htVs l
 | y :: r, x, h => by
   rw[htVs];rcases Ix.1 h with rfl|h
   ·omega
   ·have:=nB h;omega
theorem sA:∀{l:List EE} {x:EE},x∈l->x.ht<=htEs l
 | y :: r, x, h => by
   rw[htEs];rcases Ix.1 h with rfl|h
   ·omega
   ·have:=sA h;omega
theorem fS {v x:VV}(h:x∈v.kids):x.ht<v.ht:=by
 cases v with|mk k n t kids keys ents labels=>
 have:=nB (show x∈kids from h);rw[VV.ht];omega
theorem ip {v:VV}{e:EE}(h:e∈v.ents):e.ht<v.ht:=by
 cases v with|mk k n t kids keys ents labels=>
 have:=sA (show e∈ents from h);rw[VV.ht];omega
theorem gF {e:EE}{x:VV}(h:x∈e.args):x.ht<=e.ht:=by
 cases e with|mk args f res=>
 have:=nB (show x∈args from h);rw[EE.ht];omega
theorem gG(e:EE):e.res.ht<=e.ht:=by
 cases e with|mk args f res=>
 show res.ht<=_;rw[EE.ht];omega
theorem fx(v:VV):0<v.ht:=by cases v;rw[VV.ht];omega
def bY(a b:Int):Int:=if a<b then -1 else if b<a then 1 else 0
def nz(a b:Int):Int:=if a=0 then b else a
def ec {α:Type}(f:α->α->Int):List α->List α->Int
 |x::r,y::s=>nz (f x y) (ec f r s)
 |_,_=>0
def cr {α:Type}(f:α->α->Int)(a b:List α):Int:=nz (bY a.length b.length) (ec f a b)
def iR:List UInt8->List UInt8->Int
 |[],[]=>0
 |[],_::_=> -1
 |_::_,[]=>1
 |x::r,y::s=>if x<y then -1 else if y<x then 1 else iR r s
def bD(a b:ByteArray):Int:=iR a.data.toList b.data.toList
def bN(a b:KK):Int:=nz (bY a.kind b.kind) (bD a.text b.text)
mutual
def bH:VV->VV->Int
 | .mk k n t kids keys ents labels, b =>
   nz (bY k b.kind) (nz (bY n b.num) (nz (bD t b.text) (nz (cr bN keys b.keys) (nz (nz (bY kids.length b.kids.length) (lexVs kids b.kids)) (nz (nz (bY ents.length b.ents.length) (lexEs ents b.ents)) (cr bD labels b.labels))))))
def cmpE:EE->EE->Int
 | .mk args f res,b=>nz (nz (bY args.length b.args.length) (lexVs args b.args)) (nz (if f=b.fails then 0 else if f then -1 else 1) (bH res b.res))
def lexVs:List VV->List VV->Int
 |x::r,y::s=>nz (bH x y) (lexVs r s)
 |[],_=>0
 |_::_,[]=>0
def lexEs:List EE->List EE->Int
 |x::r,y::s=>nz (cmpE x y) (lexEs r s)
 |[],_=>0
 |_::_,[]=>0
end
theorem nC:∀a b,lexVs a b=ec bH a b
 |[],_=>by rw[lexVs,ec];simp
 |_::_,[]=>by rw[lexVs,ec];simp
 |x::r,y::s=>by rw[lexVs,ec,nC r s]
theorem sB:∀a b,lexEs a b=ec cmpE a b
 |[],_=>by rw[lexEs,ec];simp
 |_::_,[]=>by rw[lexEs,ec];simp
 |x::r,y::s=>by rw[lexEs,ec,sB r s]
theorem qE(a b:VV):bH a b=nz (bY a.kind b.kind) (nz (bY a.num b.num) (nz (bD a.text b.text) (nz (cr bN a.keys b.keys) (nz (cr bH a.kids b.kids) (nz (cr cmpE a.ents b.ents) (cr bD a.labels b.labels)))))):=by
 cases a with|mk k n t kids keys ents labels=>
 rw[bH,nC,sB];rfl
theorem qF(a b:EE):cmpE a b=nz (cr bH a.args b.args) (nz (if a.fails=b.fails then 0 else if a.fails then -1 else 1) (bH a.res b.res)):=by
 cases a with|mk args f res=>
 rw[cmpE,nC];rfl
def bV {α:Type}(f:α->α->Int):List α->Bool
 |x::y::r=>decide (f x y<0)&&bV f (y::r)
 |_=>G6
def gq(k:Int):Bool:=decide (k=1)||decide (k=4)||decide (k=9)
def fg(k:Int):Bool:=decide (k=2)||decide (k=3)
def fh(k:Int):Bool:=decide (k=6)||decide (k=7)||decide (k=8)
def bQ(num:Int)(e:EE):Bool:=decide ((e.args.length:Int)=num)&&(!e.fails||decide (bH e.res zeroV=0))
def iS(l:List VV):Bool:=match l[1]?with|some t=>decide (t.kind=5)||decide (t.kind=7)|none=>G7
def bT(v:VV):Bool:=
 (decide (1<=v.kind)&&decide (v.kind<=9))&&(bV bD v.labels&&v.labels.all fun s=>dG s.data.toList)&&
 ((gq v.kind||decide (v.num=0))&&(fg v.kind||decide (v.text.size=0))&&(fh v.kind||v.kids.isEmpty)&&(decide (v.kind=8)||v.keys.isEmpty)&&(decide (v.kind=9)||v.ents.isEmpty))&&
 (if v.kind = 2 then decide (v.text.size ≤ 64) else if v.kind = 3 then eb v.text.data.toList else if v.kind = 4 then decide (0 ≤ v.num) else if v.kind = 6 then decide (v.kids.length ≤ 4)
  else if v.kind=7 then decide (v.kids.length=2)&&iS v.kids
  else if v.kind=8 then decide (v.keys.length=v.kids.length)&&(bV bN v.keys&&v.keys.all fun k=>dq k.kind k.text.data.toList)
  else if v.kind=9 then decide (0<=v.num)&&decide (v.num<=4)&&(bV cmpE v.ents&&v.ents.all (bQ v.num))else G6)
mutual
def VV.valid:VV->Bool
 | .mk k n t kids keys ents labels=>bT (.mk k n t kids keys ents labels)&&(validVs kids&&validEs ents)
def EE.validIn:EE->Bool
 | .mk args f res=>validVs args&&(f||res.valid)
def validVs:List VV->Bool
 |[]=>G6
 |x::r=>x.valid&&validVs r
def validEs:List EE->Bool
 |[]=>G6
 |x::r=>x.validIn&&validEs r
end
theorem jQ:∀l,validVs l=l.all VV.valid
 |[]=>by rw[validVs];rfl
 |x::r=>by rw[validVs,jQ r];rfl
theorem nD:∀l,validEs l=l.all EE.validIn
 |[]=>by rw[validEs];rfl
 |x::r=>by rw[validEs,nD r];rfl
theorem fT(v:VV):v.valid=(bT v&&(v.kids.all VV.valid&&v.ents.all EE.validIn)):=by
 cases v with|mk k n t kids keys ents labels=>rw[VV.valid,jQ,nD];rfl
theorem jR(e:EE):e.validIn=(e.args.all VV.valid&&(e.fails||e.res.valid)):=by
 cases e with|mk a f r=>rw[EE.validIn,jQ];rfl
end Go.Proofs.YtfpahmeploondaaGreatDoor
namespace Go.Proofs.YtfpahmeploondaaGreatDoor
open Go.RowKit
structure Upd(b:Nat)(o:Obj)(w w':World):Prop where
 os:w'.os=w.os
 tape:w'.tape=w.tape
 output:w'.output=w.output
 size:w'.heap.size=w.heap.size
 blk:w'.heap[b]? =G5 o
 other:∀k,k≠b->w'.heap[k]? =w.heap[k]?
theorem Upd.trans {b:Nat}{o o':Obj}{w w1 w2:World}(h:Upd b o w w1)(k:Upd b o' w1 w2):Upd b o' w w2:=
 ⟨k.os.trans h.os,k.tape.trans h.tape,k.output.trans h.output,k.size.trans h.size,k.blk,fun i hi=>(k.other i hi).trans (h.other i hi)⟩
theorem Upd.refl {b:Nat}{o:Obj}{w:World}(h:w.heap[b]? =G5 o):Upd b o w w:=⟨rfl,rfl,rfl,rfl,h,fun _ _=>rfl⟩
theorem Upd.drew {b:Nat}{o:Obj}{w w1:World}(h:Upd b o w w1):Upd b o w w1.drew:=⟨h.os,h.tape,h.output,h.size,h.blk,h.other⟩
theorem Upd.set {b i:Nat}{v:Value}{c:Array Value}{t:TypeId}{fr:Nat×Nat}{w w1:World}(h:Upd b (.cells c t fr) w w1):Upd b (.cells (c.setIfInBounds i v) t fr) w (w1.setCell ⟨b,i,G0⟩ v):=by
 refine h.trans ⟨rfl,rfl,rfl,by simp[World.setCell],?_,?_⟩
 ·simp[World.setCell,Array.getElem?_modify,h.blk]
 ·intro k hk;simp only[World.setCell,Array.getElem?_modify];rw[if_neg (by omega)]
theorem Upd.cast {b:Nat}{o o':Obj}{w w':World}(h:Upd b o w w')(e:o=o'):Upd b o' w w':=e▸h
theorem Upd.below {b B:Nat}{o:Obj}{w w':World}(h:Upd b o w w')(hB:B<=b):Below B w w':=
 ⟨h.os,h.tape,h.output,by rw[h.size];exact G8 _,fun k hk=>h.other k (by omega)⟩
theorem _root_.Go.RowKit.Below.step {w b c:World}(h:Below w.heap.size w b)(k:Below b.heap.size b c):Below w.heap.size w c:=h.trans (k.mono h.size)
theorem ai {w:World}{b:Nat}{o:Obj}(h:w.heap[b]? =G5 o):b<w.heap.size:=(Array.getElem?_eq_some_iff.1 h).1
structure Fr(S:List Nat)(v v':Value)(w w':World):Prop where
 os:w'.os=w.os
 tape:w'.tape=w.tape
 output:w'.output=w.output
 size:w.heap.size<=w'.heap.size
 block:∀k,k<w.heap.size->k∉S->v.ownBlock≠G5 k->w'.heap[k]? =w.heap[k]?
 own:v'.ownBlock=v.ownBlock\/∀g,v'.ownBlock=G5 g->w.heap.size<=g
theorem Fr.refl(S:List Nat)(v:Value)(w:World):Fr S v v w w:=⟨rfl,rfl,rfl,G8 _,fun _ _ _ _=>rfl,.inl rfl⟩
theorem Fr.trans {S:List Nat}{v v1 v2:Value}{w w1 w2:World}(h:Fr S v v1 w w1)(k:Fr S v1 v2 w1 w2):Fr S v v2 w w2:=by
 refine⟨k.os.trans h.os,k.tape.trans h.tape,k.output.trans h.output,G9 h.size k.size,?_,?_⟩
 ·intro i hi hS hv;refine(k.block i (Nat.lt_of_lt_of_le hi h.size) hS ?_).trans (h.block i hi hS hv);rcases h.own with e|e
  ·rw[e];exact hv
  ·intro e2;have:=e i e2;omega
 ·rcases k.own with e|e
  ·rw[e];exact h.own
  ·exact .inr fun g hg=>G9 h.size (e g hg)
theorem Fr.of_below {S:List Nat}{v:Value}{w w':World}(h:Below w.heap.size w w'):Fr S v v w w':=⟨h.os,h.tape,h.output,h.size,fun i hi _ _=>h.block i hi,.inl rfl⟩
theorem Fr.of_upd {S:List Nat}{v:Value}{b:Nat}{o:Obj}{w w':World}(h:Upd b o w w')(hb:b∈S):Fr S v v w w':=
 ⟨h.os,h.tape,h.output,by rw[h.size];exact G8 _,fun i _ hn _=>h.other i fun e=>hn (e▸hb),.inl rfl⟩
theorem Fr.of_grown {S:List Nat}{v v':Value}{w w':World}(h:w.grownBy w' v.ownBlock)(ho:v'.ownBlock=v.ownBlock\/∀g,v'.ownBlock=G5 g->w.heap.size<=g):Fr S v v' w w':=
 ⟨h.os,h.tape,h.output,h.size,fun i hi _ hv=>h.block i hi fun e=>hv e.symm,ho⟩
theorem Fr.drew {S:List Nat}{v v':Value}{w w':World}(h:Fr S v v' w w'):Fr S v v' w w'.drew:=⟨h.os,h.tape,h.output,h.size,h.block,h.own⟩
theorem Fr.mono {S T:List Nat}{v v':Value}{w w':World}(h:Fr S v v' w w')(hs:∀x∈S,x∈T):Fr T v v' w w':=⟨h.os,h.tape,h.output,h.size,fun i hi hn=>h.block i hi fun hx=>hn (hs _ hx),h.own⟩
theorem Fr.below {S:List Nat}{B:Nat}{v v':Value}{w w':World}(h:Fr S v v' w w')(hB:B<=w.heap.size)(hS:∀x∈S,B<=x)(hv:∀g,v.ownBlock=G5 g->B<=g):Below B w w':=
 ⟨h.os,h.tape,h.output,h.size,fun i hi=>h.block i (by omega) (fun hx=>by have:=hS _ hx;omega) fun e=>by have:=hv _ e;omega⟩
theorem cell_at {w w':World}{b i:Nat}(h:w'.heap[b]? =w.heap[b]?):w'.cell? ⟨b,i,G0⟩=w.cell? ⟨b,i,G0⟩:=by simp[World.cell?,h]
theorem ao {B:Nat}{w w1:World}{b:Nat}{e:TypeId}{size n:Nat}{v:Value}{xs:List Value}(h:w.ownsRow b e size v n xs)(hB:Below B w w1)(hw:w.heap.size<=B):w1.ownsRow b e size v n xs:=by
 refine⟨h.1,?_⟩;rcases h.2 with h2|⟨g,cap,cur,h3,h4,h5,h6⟩
 ·exact .inl h2
 ·refine .inr ⟨g,cap,cur,h3,h4,?_,h6⟩;have:=ai h5;rw[hB.block g (by omega)];exact h5
theorem cF {w w':World}{B n:Nat}{e:TypeId}{size:Nat}{v:Value}{xs:List Value}(h:w.ownsRow B e size v n xs)(hb:∀g,v.ownBlock=G5 g->w'.heap[g]? =w.heap[g]?):w'.ownsRow B e size v n xs:=by
 refine⟨h.1,?_⟩;rcases h.2 with h2|⟨g,cap,cur,rfl,h4,h5,h6⟩
 ·exact .inl h2
 ·exact .inr ⟨g,cap,cur,rfl,h4,(hb g rfl).trans h5,h6⟩
theorem bG {w:World}{B B' n:Nat}{e:TypeId}{size:Nat}{v:Value}{xs:List Value}(h:w.ownsRow B e size v n xs)(hB:B'<=B):w.ownsRow B' e size v n xs:=by
 refine⟨h.1,?_⟩;rcases h.2 with h2|⟨g,cap,cur,h3,h4,h5⟩
 ·exact .inl h2
 ·exact .inr ⟨g,cap,cur,h3,G9 hB h4,h5⟩
theorem aB {w:World}{B n:Nat}{e:TypeId}{size:Nat}{v:Value}{xs:List Value}(h:w.ownsRow B e size v n xs):∃p cap,v=GU p n cap:=by
 rcases h.2 with⟨rfl,h0⟩|⟨g,cap,cur,rfl,_⟩
 ·exact⟨G0,0,by rw[h0]⟩
 ·exact⟨_,_,rfl⟩
theorem kB {w:World}{B n cap:Nat}{e:TypeId}{size:Nat}{p:Option Addr}{xs:List Value}(h:w.ownsRow B e size (GU p n cap) n xs)(hn:0<n):∃g,p=G5 ⟨g,0,G0⟩:=by
 rcases h.2 with⟨_,h0⟩|⟨g,c,cur,h1,_⟩
 ·omega
 ·simp only[GU.injEq]at h1;exact⟨g,h1.1⟩
theorem kC {P:Program}(w:World)(base:Nat)(t ty e:TypeId)(i:TypeInfo)(z:Value)(ht:P.underlying t=G5 (.slice e))(hi:P.info? e=G5 i)(hz:i.zero=G5 z)
 (v:Value) (n:Nat) (xs:List Value) (hown:w.ownsRow base e i.size v n xs)
 (a:Addr) (m c:Nat) (news:List Value) (hl:news.length=m*i.size) (hnews:∀j u,news[j]? =G5 u->w.cell? (a.add j)=G5 u) (h1:∀u∈news,u.oneCell'=G6) (hm:0<m)
 (h63:n+m<=maxLen) (hbytes:(n+m)*i.bytes<=140737488355328) {v':Value} {w':World}
 (hr:(Builtin.append_ #[t,t] ty #[v,GU (G5 a) m c]).run P w=.ok v' w'):v'.ownBlock=v.ownBlock\/∀g,v'.ownBlock=G5 g->w.heap.size<=g:=by
 have hsmall:n+m<=9223372036854775807:=by simp only[maxLen]at h63;omega
 rcases hown.2 with⟨rfl,rfl⟩|⟨g,cap,cur,rfl,hbg,hg,hnc,hcm,hcs,htake⟩
 ·have hx:=run_append_nil (P:=P) w t ty e i z ht hi hz a m c news hl hnews hm (by omega) (by have hb:=hbytes;simp only[Nat.zero_add]at hb;omega);rw[hx]at hr;injection hr with h1 _
  subst h1;exact .inr fun g hg=>by cases hg;exact G8 _
 ·by_cases hroom:n+m<=cap
  ·have hx:=run_append_room (P:=P) w t ty e i ht hi g n cap cur hg a m c news hl hnews h1 hroom (by rw[hl,hcs,<-Nat.add_mul];exact Nat.mul_le_mul_right _ hroom);rw[hx]at hr;injection hr with h1 _
   subst h1;exact .inl rfl
  ·have hx:=run_append_grow (P:=P) w t ty e i z ht hi hz ⟨g,0,G0⟩ n cap xs hown.1 (hown.cells (g:=g) rfl) a m c news hl hnews (by omega) (by omega) (growslice_fits (by omega) hbytes);rw[hx]at hr;injection hr with h1 _
   subst h1;exact .inr fun g hg=>by cases hg;exact G8 _
theorem aA {P:Program}{ops:Array Oper}{rest:List Oper}{o:Oper}{a:Act}{Q:Exit->Act->World->Prop}(hgd:o.guard=G0)(s x:Operand)(t:TypeId)
 (ho:o.op=.call {callee:=.builtin .append,args:= #[s,x],argTypes:= #[t,t]}) (e:TypeId) (ht:P.underlying t=G5 (.slice e)) {z:Value} {size bytes:Nat}
 (hinfo:(P.info? e).map (fun i=>(i.zero,i.size,i.bytes))=G5 (G5 z,size,bytes)) (hzs:z.cells.size=size) (hsz:0<size) (hby:bytes<=1048576)
 (B:Nat) (wx:World) (g:Nat) (news:List Value) (hg:wx.heap[g]? =G5 (.cells news.toArray e)) (hB:B<=wx.heap.size) (hl:news.length=size) (h1:∀u∈news,u.oneCell'=G6) (v:Value) (n:Nat) (xs:List Value) (hs:a.eval s=v) (hown:wx.ownsRow B e size v n xs) (hn:n<=67108864)
 (hx:a.eval x=GU (G5 ⟨g,0,G0⟩) 1 1)
 (h:∀v' w',w'.ownsRow B e size v' (n+1) (xs++news)->Fr [] v v' wx w'->wpList P ops Q rest (a.put o.dst v') w'):
 wpList P ops Q (o::rest) a wx:=by
 obtain⟨i,hi,hz,rfl,rfl⟩:=info_parts hinfo;have hc:∀j u,news[j]? =G5 u->wx.cell? ((⟨g,0,G0⟩:Addr).add j)=G5 u:=fun j u hu=>by
  have h2:(⟨g,0,G0⟩:Addr).add j=⟨g,j,G0⟩:=by
   unfold Addr.add;split
   ·rename_i e;subst e;rfl
   ·simp
  rw[h2,cell_of_row _ _ _ _ _ _ hg];simpa using hu
 have hmb:(n+1)*i.bytes<=140737488355328:=G9 (Nat.mul_le_mul (show n+1<=67108865 by omega) hby) (by decide);refine wpList_plain hgd fun K hK=>?_
 obtain⟨v',w',hr,h2,h3,_⟩:=run_append_own (P:=P) wx B t o.type e i z i.size i.bytes ht hi hz rfl rfl hzs hsz v n xs hown ⟨g,0,G0⟩ 1 1 news (by omega) hc h1 (by unfold maxLen;omega) hmb hB;have hw:=kC (P:=P) wx B t o.type e i z ht hi hz v n xs hown ⟨g,0,G0⟩ 1 1 news (by omega) hc h1 (by omega) (by unfold maxLen;omega) hmb hr;unfold Oper.wp execOp;simp only[ho,resolve,invoke,builtin,Sem.run_bind,Sem.run_pure,Result.andThen_ok,List.map_toArray,List.map_cons,List.map_nil,hs,hx,hr];exact hK _ _ (h v' w' h2 (Fr.of_grown h3 hw))
end Go.Proofs.YtfpahmeploondaaGreatDoor
