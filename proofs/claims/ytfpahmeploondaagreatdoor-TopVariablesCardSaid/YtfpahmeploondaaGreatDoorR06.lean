/- Walks and plain facts for the law on type variables, for all values and types that the heap holds (texts M2 M3 M4 M5 V3). -/
import Derived.Laws.StructEq
import Derived.Test.YtfpahmeploondaaGreatDoorR02
import Derived.Test.YtfpahmeploondaaGreatDoorR03
import Derived.Test.YtfpahmeploondaaGreatDoorR04
import Derived.Test.YtfpahmeploondaaGreatDoorR05
set_option linter.unusedVariables false
set_option linter.unusedSimpArgs false
set_option maxHeartbeats 64000000
open Option renaming none -> G0, some -> G5
open Bool renaming true -> G6
open Go.Value renaming slice -> GU, string -> GW, int -> GX
open Go.Obj renaming cells -> GY
open Go.IntKind renaming i64 -> GZ
open List renaming length_eq_zero_iff -> Jy, length_take -> IN
open Go.Result renaming andThen_ok -> Ji
open Bool renaming eq_iff_iff -> IQ
open Nat renaming le_trans -> G9
open Go.Sem renaming run_bind -> It
open Go.World renaming cell? -> Ic
namespace Go.Proofs.YtfpahmeploondaaGreatDoor
open Go.RowKit
set_option maxRecDepth 100000
def ER(b:Bool)(w:World)(e:Ending)(w':World):Prop:=e=.returned (.bool b)/\Below w.heap.size w w'
def KS(w:World)(v:Value)(l:List VV):Prop:=∃d p c,v=GU p l.length c/\Rw w p c 7 l (VS w d)
theorem KS.below {w w':World}{v:Value}{l:List VV}(h:KS w v l)(hb:Below w.heap.size w w'):KS w' v l:=by
 obtain⟨d,p,c,e,h⟩:=h;exact⟨d,p,c,e,h.below hb fun _ _ _ h=>h.below hb⟩
theorem VS.seven {w:World}{d:Nat}{V:VV}{cs:List Value}(h:VS w d V cs):∃p1 c1 p2 c2 p3 c3 p4 c4,cs=[GX GZ V.kind,GX GZ V.num,GW V.text,GU p1 V.kids.length c1,GU p2 V.keys.length c2,GU p3 V.ents.length c3,GU p4 V.labels.length c4]:=by
 cases d with
 |zero=>exact h.elim
 |succ d=>obtain⟨p1,c1,p2,c2,p3,c3,p4,c4,e,_⟩:=h;exact⟨p1,c1,p2,c2,p3,c3,p4,c4,e⟩
theorem aN {w:World}{b:Nat}{e:TypeId}{fr:Nat×Nat}{s0 s1 s2 s3 s4 s5 s6:Value}(h:w.heap[b]? =G5 (GY #[s0,s1,s2,s3,s4,s5,s6] e fr)):
 (w.cell? ⟨b,0,G0⟩=G5 s0/\w.cell? ⟨b,1,G0⟩=G5 s1/\w.cell? ⟨b,2,G0⟩=G5 s2/\w.cell? ⟨b,3,G0⟩=G5 s3)/\(w.cell? ⟨b,4,G0⟩=G5 s4/\w.cell? ⟨b,5,G0⟩=G5 s5/\w.cell? ⟨b,6,G0⟩=G5 s6):=by simp[Ic,h]
theorem aM {w:World}{b:Nat}{e:TypeId}{fr:Nat×Nat}{s0 s1:Value}(h:w.heap[b]? =G5 (GY #[s0,s1] e fr)):w.cell? ⟨b,0,G0⟩=G5 s0/\w.cell? ⟨b,1,G0⟩=G5 s1:=by simp[Ic,h]
theorem jG {α:Type}{p:α->Bool}{L:List α}{k:Nat}(h:k<L.length):(L.take (k+1)).any p=((L.take k).any p||p L[k]):=by
 rw[List.take_succ_eq_append_getElem h,List.any_append];simp
theorem sI {α:Type}{p:α->Bool}{L:List α}{k:Nat}(h:(L.take k).any p=G6):L.any p=true:=by
 rw[List.any_eq_true]at h ⊢;obtain⟨x,hx,hp⟩:=h;exact⟨x,List.mem_of_mem_take hx,hp⟩
def BV(w:World)(b:Nat)(V:VV):Prop:=∃d s0 s1 s2 s3 s4 s5 s6,w.heap[b]? =G5 (GY #[s0,s1,s2,s3,s4,s5,s6] 33)/\VS w d V [s0,s1,s2,s3,s4,s5,s6]
def BT(w:World)(b:Nat)(T:Ty):Prop:=∃s0 s1,w.heap[b]? =G5 (GY #[s0,s1] 27)/\TS w (.agg #[s0,s1]) T
theorem BV.below {w w':World}{b:Nat}{V:VV}(h:BV w b V)(hb:Below w.heap.size w w'):BV w' b V:=by
 obtain⟨d,s0,s1,s2,s3,s4,s5,s6,h1,h2⟩:=h;exact⟨d,s0,s1,s2,s3,s4,s5,s6,(hb.block _ (ai h1)).trans h1,h2.below hb⟩
theorem BT.below {w w':World}{b:Nat}{T:Ty}(h:BT w b T)(hb:Below w.heap.size w w'):BT w' b T:=by
 obtain⟨s0,s1,h1,h2⟩:=h;exact⟨s0,s1,(hb.block _ (ai h1)).trans h1,h2.below hb⟩
def XI {α:Type}(p:α->Bool)(L:List α)(w:World)(e:Ending)(w':World):Prop:=
 ∃i:Int,e=.returned (GX GZ i)/\decide (0<=i)=L.any p/\(0<=i->∃k:Nat,i=(k:Int)/\∃h:k<L.length,p L[k]=G6)/\Below w.heap.size w w'
theorem FB(k:Int)(t:ByteArray)(w:World):(part 3 #[GX GZ k,GW t] 0).run Tryz.prog w=.ok (GX GZ k) w:=by kernel_rfl
theorem DV(k:Int)(t:ByteArray)(w:World):(part 9 #[GX GZ k,GW t] 1).run Tryz.prog w=.ok (GW t) w:=by kernel_rfl
theorem iU(s t:ByteArray):(s.toList==t.toList)=decide (s=t):=by
 rw[IQ,beq_iff_eq,decide_eq_true_eq];refine⟨fun h=>?_,fun h=>by rw[h]⟩;rw[ByteArray.toList_eq,ByteArray.toList_eq,Array.toList_inj]at h;cases s;cases t;simp_all
theorem iV(w:World)(a b:KK):(binOp .eql 103 (.agg #[GX GZ a.kind,GW a.text]) (.agg #[GX GZ b.kind,GW b.text])).run Tryz.prog w=.ok (.bool (decide (a=b))) w:=by
 have e:decide (a=b)=(a.kind==b.kind&&a.text.toList==b.text.toList):=by
  rw[iU,IQ,Bool.and_eq_true,decide_eq_true_eq,decide_eq_true_eq,beq_iff_eq];cases a;cases b;simp
 rw[e,run_eql_struct,run_equalIn_agg w 9999 103 _ _ (by kernel_rfl) (by kernel_rfl)];simp only[Program.fieldsOf,Tryz.underlying103];simp only[Op.eqFields];rw[if_pos (by decide),if_pos (by decide)];simp only[It,FB,DV,Ji,run_equalIn_int w 9998 3 .i64 .i64 a.kind b.kind Tryz.underlying3];cases h:a.kind==b.kind with
 |false=>simp
 | true =>
   simp only[Bool.not_true,Bool.false_eq_true,if_false,It,DV,Ji,run_equalIn_string w 9998 9 a.text b.text Tryz.underlying9];cases h2:a.text.toList==b.text.toList<;>simp
def SS(w:World)(v:Value)(l:List ByteArray):Prop:=∃p c,v=GU p l.length c/\Rw w p c 1 l SC
def KY(w:World)(v:Value)(l:List KK):Prop:=∃p c,v=GU p l.length c/\Rw w p c 2 l KC
theorem SS.below {w w':World}{v:Value}{l:List ByteArray}(h:SS w v l)(hb:Below w.heap.size w w'):SS w' v l:=by
 obtain⟨p,c,e,h⟩:=h;exact⟨p,c,e,h.below hb fun _ _ _ h=>h⟩
theorem KY.below {w w':World}{v:Value}{l:List KK}(h:KY w v l)(hb:Below w.heap.size w w'):KY w' v l:=by
 obtain⟨p,c,e,h⟩:=h;exact⟨p,c,e,h.below hb fun _ _ _ h=>h⟩
theorem Rw.str {w:World}{p:Option Addr}{c:Nat}{l:List ByteArray}(h:Rw w p c 1 l SC){k:Nat}(hk:k<l.length):∃a o,p=G5 ⟨a,o,G0⟩/\a<w.heap.size/\w.cell? ⟨a,o+k,G0⟩=G5 (GW l[k]):=by
 obtain⟨a,o,cs,h1,h2,h3,h4,rfl⟩:=h.at hk;exact⟨a,o,h1,h2,by simpa using h4 0 _ rfl⟩
theorem Rw.key {w:World}{p:Option Addr}{c:Nat}{l:List KK}(h:Rw w p c 2 l KC){k:Nat}(hk:k<l.length):∃a o,p=G5 ⟨a,o,G0⟩/\a<w.heap.size/\w.cell? ⟨a,o+k*2,G0⟩=G5 (GX GZ l[k].kind)/\w.cell? ⟨a,o+k*2+1,G0⟩=G5 (GW l[k].text):=by
 obtain⟨a,o,cs,h1,h2,h3,h4,rfl⟩:=h.at hk;exact⟨a,o,h1,h2,by simpa using h4 0 _ rfl,h4 1 _ rfl⟩
theorem qG {w:World}{b:Nat}{e:TypeId}{fr:Nat×Nat}{s0 s1 s2 s3:Value}(h:w.heap[b]? =G5 (GY #[s0,s1,s2,s3] e fr)):
 w.cell? ⟨b,0,G0⟩=G5 s0/\w.cell? ⟨b,1,G0⟩=G5 s1/\w.cell? ⟨b,2,G0⟩=G5 s2/\w.cell? ⟨b,3,G0⟩=G5 s3:=by simp[Ic,h]
theorem aY {w:World}{b:Nat}{e:TypeId}{fr:Nat×Nat}{s0 s1 s2 s3 s4 s5 s6 s7:Value}(h:w.heap[b]? =G5 (GY #[s0,s1,s2,s3,s4,s5,s6,s7] e fr)):
 (w.cell? ⟨b,0,G0⟩=G5 s0/\w.cell? ⟨b,1,G0⟩=G5 s1/\w.cell? ⟨b,2,G0⟩=G5 s2/\w.cell? ⟨b,3,G0⟩=G5 s3)/\(w.cell? ⟨b,4,G0⟩=G5 s4/\w.cell? ⟨b,5,G0⟩=G5 s5/\w.cell? ⟨b,6,G0⟩=G5 s6/\w.cell? ⟨b,7,G0⟩=G5 s7):=by simp[Ic,h]
theorem bE(w:World)(A B:Obj):∃w2,(w.alloc A).alloc B=w2/\w2.heap[w.heap.size]? =G5 A/\w2.heap[w.heap.size+1]? =G5 B/\Below w.heap.size w w2:=by
 refine⟨_,rfl,heap_alloc2_old w A B,heap_alloc2_new w A B,((Below.refl _ _).alloc (Nat.le_refl _) _).alloc ?_ _⟩;show _<=(w.heap.push A).size;simp
theorem uR(w:World)(A B C:Obj):∃w3,((w.alloc A).alloc B).alloc C=w3/\w3.heap[w.heap.size]? =G5 A/\w3.heap[w.heap.size+1]? =G5 B/\w3.heap[w.heap.size+1+1]? =G5 C/\Below w.heap.size w w3:=by
 obtain⟨w2,e,h1,h2,h3⟩:=bE w A B;have hs:w2.heap.size=w.heap.size+1+1:=by rw[<-e];show((w.heap.push A).push B).size=_;simp
 refine⟨_,rfl,?_,?_,?_,?_⟩
 ·rw[e,Below.heap_alloc _ _ _ (by omega)];exact h1
 ·rw[e,Below.heap_alloc _ _ _ (by omega)];exact h2
 ·rw[e,<-hs];exact heap_alloc_new _ _
 ·rw[e];exact h3.alloc (by omega) _
theorem yd {n:TN}{k:KK}{i:Nat}(hi:i<n.fields.length)(hno:∀j (h:j<n.fields.length),j<i->n.fields[j].key≠k)(hy:n.fields[i].key=k):atN n k=n.fields[i].node:=by
 unfold atN;have:n.fields.find? (fun f=>decide (f.key=k))=G5 n.fields[i]:=by
  rw[List.find?_eq_some_iff_getElem];refine⟨by simp[hy],i,hi,rfl,fun j hj=>by simp[hno j (by omega) hj]⟩
 rw[this]
theorem pF {n:TN}{k:KK}(hno:∀j (h:j<n.fields.length),n.fields[j].key≠k):atN n k=if k.kind=0 then n.rest0 else n.rest1:=by
 unfold atN;have:n.fields.find? (fun f=>decide (f.key=k))=none:=by
  rw[List.find?_eq_none];intro x hx;obtain⟨j,hj,rfl⟩:=List.mem_iff_getElem.1 hx;simp[hno j hj]
 rw[this]
theorem cB {w:World}{b:Nat}{e:TypeId}{fr:Nat×Nat}{s0 s1 s2 s3 s4 s5 s6 s7 s8:Value}(h:w.heap[b]? =G5 (GY #[s0,s1,s2,s3,s4,s5,s6,s7,s8] e fr)):
 (w.cell? ⟨b,0,G0⟩=G5 s0/\w.cell? ⟨b,1,G0⟩=G5 s1/\w.cell? ⟨b,2,G0⟩=G5 s2/\w.cell? ⟨b,3,G0⟩=G5 s3)/\(w.cell? ⟨b,4,G0⟩=G5 s4/\w.cell? ⟨b,5,G0⟩=G5 s5/\w.cell? ⟨b,6,G0⟩=G5 s6/\w.cell? ⟨b,7,G0⟩=G5 s7)/\w.cell? ⟨b,8,G0⟩=G5 s8:=by simp[Ic,h]
theorem RC.takeI {w:World}{p:Option Addr}{n:Nat}{xs:List Int}(h:RC w 1 p n (ic xs)){m:Nat}(hm:m<=xs.length):RC w 1 p m (ic (xs.take m)):=by
 have hl:(ic xs).length=n*1:=h.1;rw[nG,Nat.mul_one]at hl;refine⟨by rw[nG,IN];omega,fun h0=>?_⟩;obtain⟨a,o,h1,h2,h3⟩:=h.2 (by omega);refine⟨a,o,h1,h2,fun j u hu=>h3 j u ?_⟩;rw[<-hu];have hj:j<m:=by
  have:=(List.getElem?_eq_some_iff.1 hu).1;rw[nG,IN]at this;omega
 simp only[ic,List.map_take];rw[List.getElem?_take,if_pos hj]
theorem IS.take {w:World}{p:Option Addr}{c:Nat}{xs:List Int}(h:IS w (GU p xs.length c) xs){m:Nat}(hm:m<=xs.length):IS w (GU p m c) (xs.take m):=by
 obtain⟨p',c',e,h1,h2⟩:=h;injection e with e1 _ e3
 subst e1 e3;exact⟨p,c,by rw[IN,Nat.min_eq_left hm],by rw[IN];omega,by rw[IN,Nat.min_eq_left hm];exact h2.takeI hm⟩
def EY(w:World)(v:Value)(l:List EE):Prop:=∃d p c,v=GU p l.length c/\Rw w p c 9 l (ES w d)
theorem EY.below {w w':World}{v:Value}{l:List EE}(h:EY w v l)(hb:Below w.heap.size w w'):EY w' v l:=by
 obtain⟨d,p,c,e,h⟩:=h;exact⟨d,p,c,e,h.below hb fun _ _ _ h=>h.below hb⟩
theorem ES.nine {w:World}{d:Nat}{e:EE}{cs:List Value}(h:ES w d e cs):∃pa ca q1 e1 q2 e2 q3 e3 q4 e4,cs=[GU pa e.args.length ca,.bool e.fails,GX GZ e.res.kind,GX GZ e.res.num,GW e.res.text,GU q1 e.res.kids.length e1,GU q2 e.res.keys.length e2,GU q3 e.res.ents.length e3,GU q4 e.res.labels.length e4]:=by
 obtain⟨pa,ca,rs,rfl,_,h⟩:=h;obtain⟨p1,c1,p2,c2,p3,c3,p4,c4,rfl⟩:=h.seven;exact⟨_,_,_,_,_,_,_,_,_,_,rfl⟩
theorem VW.ex {w:World}{v:Value}{V:VV}(h:VW w v V):∃d p1 c1 p2 c2 p3 c3 p4 c4,v=.agg #[GX GZ V.kind,GX GZ V.num,GW V.text,GU p1 V.kids.length c1,GU p2 V.keys.length c2,GU p3 V.ents.length c3,GU p4 V.labels.length c4]/\
 VS w d V [GX GZ V.kind,GX GZ V.num,GW V.text,GU p1 V.kids.length c1,GU p2 V.keys.length c2,GU p3 V.ents.length c3,GU p4 V.labels.length c4]/\
 KS w (GU p1 V.kids.length c1) V.kids/\KY w (GU p2 V.keys.length c2) V.keys/\EY w (GU p3 V.ents.length c3) V.ents/\SS w (GU p4 V.labels.length c4) V.labels:=by
 obtain⟨d,cs,rfl,h⟩:=h;have h0:=h;cases d with
 |zero=>exact h.elim
 | succ d =>
   obtain⟨p1,c1,p2,c2,p3,c3,p4,c4,rfl,g1,g2,g3,g4⟩:=h;exact⟨d+1,p1,c1,p2,c2,p3,c3,p4,c4,rfl,h0,⟨d,p1,c1,rfl,g1⟩,⟨p2,c2,rfl,g2⟩,⟨d,p3,c3,rfl,g3⟩,⟨p4,c4,rfl,g4⟩⟩
structure LO {α:Type}(S:α->Prop)(f:α->α->Int):Prop where
 sym:∀a b,S a->S b->f b a= -f a b
 tr:∀a b c,S a->S b->S c->f a b<=0->f b c<=0->f a c<=0/\(f a c=0->f a b=0/\f b c=0)
def EQ {α:Type}(S:α->Prop)(f:α->α->Int):Prop:=∀a b,S a->S b->f a b=0->a=b
theorem LO.self {α:Type}{S:α->Prop}{f:α->α->Int}(h:LO S f){a:α}(ha:S a):f a a=0:=by have:=h.sym a a ha ha;omega
theorem DW {a b:Int}:nz a b<=0<->a<0\/(a=0/\b<=0):=by unfold nz;split<;>omega
theorem nz_zero {a b:Int}:nz a b=0<->a=0/\b=0:=by unfold nz;split<;>omega
theorem LO.nz {α:Type}{S:α->Prop}{f g:α->α->Int}(h:LO S f)(k:LO S g):LO S fun a b=>nz (f a b) (g a b):=by
 refine⟨fun a b ha hb=>?_,fun a b c ha hb hc h1 h2=>?_⟩
 ·have e1:=h.sym a b ha hb;have e2:=k.sym a b ha hb;unfold Go.Proofs.YtfpahmeploondaaGreatDoor.nz;by_cases e:f a b=0
  ·rw[if_pos (by omega),if_pos e,e2]
  ·rw[if_neg (by omega),if_neg e,e1]
 ·simp only[DW,nz_zero]at*
  have t:=h.tr a b c ha hb hc (by omega) (by omega);by_cases e:f a c=0
  ·obtain⟨z1,z2⟩:=t.2 e;have u:=k.tr a b c ha hb hc (by omega) (by omega);exact⟨.inr ⟨e,u.1⟩,fun⟨_,z⟩=>⟨⟨z1,(u.2 z).1⟩,⟨z2,(u.2 z).2⟩⟩⟩
  ·exact⟨.inl (by omega),fun⟨z,_⟩=>absurd z e⟩
theorem LO.pull {α β:Type}{S:α->Prop}{R:β->Prop}{f:α->α->Int}(h:LO S f)(p:β->α)(hp:∀x,R x->S (p x)):LO R fun a b=>f (p a) (p b):=
 ⟨fun a b ha hb=>h.sym _ _ (hp a ha) (hp b hb),fun a b c ha hb hc=>h.tr _ _ _ (hp a ha) (hp b hb) (hp c hc)⟩
theorem LO.all {α:Type}{S:α->Prop}{f:α->α->Int}(h:LO (fun _=>True) f):LO S f:=⟨fun a b _ _=>h.sym a b trivial trivial,fun a b c _ _ _=>h.tr a b c trivial trivial trivial⟩
theorem ordI_lo:LO (fun _=>True) bY:=by
 refine⟨fun a b _ _=>?_,fun a b c _ _ _=>?_⟩
 ·unfold bY;(repeat' split)<;>omega
 ·unfold bY;(repeat' split)<;>omega
theorem eh {a b:Int}(h:bY a b=0):a=b:=by unfold bY at h;(repeat' split at h)<;>omega
theorem lexB_lo:LO (fun _=>True) iR:=by
 refine⟨fun a b _ _=>?_,fun a b c _ _ _=>?_⟩
 ·induction a generalizing b with
  |nil=>cases b<;>simp[iR]
  | cons x r ih =>
    cases b with
    |nil=>simp[iR]
    | cons y s =>
      simp only[iR];have:=ih s;by_cases h1:x<y
      ·have h2: ¬y<x:=by rw[UInt8.lt_iff_toNat_lt]at*;omega
       simp[h1,h2]
      ·by_cases h2:y<x
       ·simp[h1,h2]
       ·simp[h1,h2,this]
 ·induction a generalizing b c with
  | nil =>
    cases b with
    |nil=>cases c<;>simp[iR]
    |cons y s=>cases c<;>simp[iR]
  | cons x r ih =>
    cases b with
    |nil=>simp[iR]
    | cons y s =>
      cases c with
      |nil=>simp[iR]
      | cons z t =>
        simp only[iR,UInt8.lt_iff_toNat_lt];have:=ih s t;by_cases h1:x.toNat<y.toNat
        ·by_cases h2:y.toNat<z.toNat
         ·have h3:x.toNat<z.toNat:=by omega
          simp[h1,h2,h3]
         ·by_cases h3:z.toNat<y.toNat
          ·simp[h2,h3]
          ·have h4:x.toNat<z.toNat:=by omega
           simp[h1,h4]
        ·by_cases h2:y.toNat<x.toNat
         ·simp[h1,h2]
         ·by_cases h3:y.toNat<z.toNat
          ·have h4:x.toNat<z.toNat:=by omega
           simp[h1,h2,h3,h4]
          ·by_cases h4:z.toNat<y.toNat
           ·simp[h3,h4]
           ·have h5: ¬x.toNat<z.toNat:=by omega
            have h6: ¬z.toNat<x.toNat:=by omega
            simp only[h1,h2,h3,h4,h5,h6,if_false];exact this
theorem wv:∀{a b:List UInt8},iR a b=0->a=b
 |[],[],_=>rfl
 |[],_::_,h=>by simp[iR]at h
 |_::_,[],h=>by simp[iR]at h
 | x :: r, y :: s, h => by
   simp only[iR,UInt8.lt_iff_toNat_lt]at h;by_cases h1:x.toNat<y.toNat
   ·simp[h1]at h
   ·by_cases h2:y.toNat<x.toNat
    ·simp[h1,h2]at h
    ·simp only[h1,h2,if_false]at h;have:x=y:=UInt8.toNat_inj.1 (by omega);rw[this,wv h]
theorem ordS_lo:LO (fun _=>True) bD:=lexB_lo.pull (fun s:ByteArray=>s.data.toList) fun _ _=>trivial
theorem ir {a b:ByteArray}(h:bD a b=0):a=b:=by
 have h1:=wv h;have h2:a.data=b.data:=by rw[<-Array.toList_inj];exact h1
 cases a;cases b;simp_all
theorem Cu:LO (fun _=>True) bN:=(ordI_lo.pull KK.kind fun _ _=>trivial).nz (ordS_lo.pull KK.text fun _ _=>trivial)
theorem Cv {a b:KK}(h:bN a b=0):a=b:=by
 obtain⟨h1,h2⟩:=nz_zero.1 h;have e1:=eh h1;have e2:=ir h2;cases a;cases b;simp_all
theorem ww {α:Type}{S:α->Prop}{f:α->α->Int}(h:LO S f):∀n,LO (fun l:List α=>l.length=n/\∀x∈l,S x) (ec f)
 | 0 => by
   refine⟨fun a b ha hb=>?_,fun a b c ha hb hc=>?_⟩
   ·rw[Jy.1 ha.1,Jy.1 hb.1];simp[ec]
   ·rw[Jy.1 ha.1,Jy.1 hb.1,Jy.1 hc.1];simp[ec]
 | n + 1 => by
   have ih:=ww h n;have cons:∀l:List α,(l.length=n+1/\∀x∈l,S x)->∃x r,l=x::r/\S x/\r.length=n/\∀y∈r,S y:=fun l hl=>by
    cases l with
    |nil=>simp at hl
    |cons x r=>exact⟨x,r,rfl,hl.2 x (by simp),by simpa using hl.1,fun y hy=>hl.2 y (by simp[hy])⟩
   have hp:LO (fun p:α×List α=>S p.1/\p.2.length=n/\∀x∈p.2,S x) fun a b=>nz (f a.1 b.1) (ec f a.2 b.2):=(h.pull Prod.fst fun _ hx=>hx.1).nz (ih.pull Prod.snd fun _ hx=>hx.2)
   refine⟨fun a b ha hb=>?_,fun a b c ha hb hc=>?_⟩
   ·obtain⟨x,r,rfl,g1,g2⟩:=cons a ha;obtain⟨y,s,rfl,k1,k2⟩:=cons b hb;exact hp.sym (x,r) (y,s) ⟨g1,g2⟩ ⟨k1,k2⟩
   ·obtain⟨x,r,rfl,g1,g2⟩:=cons a ha;obtain⟨y,s,rfl,k1,k2⟩:=cons b hb;obtain⟨z,t,rfl,j1,j2⟩:=cons c hc;exact hp.tr (x,r) (y,s) (z,t) ⟨g1,g2⟩ ⟨k1,k2⟩ ⟨j1,j2⟩
theorem sJ {α:Type}{S:α->Prop}{f:α->α->Int}(h:LO S f):∀{a b:List α},(∀x∈a,S x)->(∀x∈b,S x)->ec f b a= -ec f a b
 |[],b,_,_=>by cases b<;>simp[ec]
 |_::_,[],_,_=>by simp[ec]
 | x :: r, y :: s, ha, hb => by
   have e1:=h.sym x y (ha x (by simp)) (hb y (by simp));have e2:=sJ h (a:=r) (b:=s) (fun z hz=>ha z (by simp[hz])) (fun z hz=>hb z (by simp[hz]));simp only[ec];unfold nz;by_cases e:f x y=0
   ·rw[if_pos (by omega),if_pos e,e2]
   ·rw[if_neg (by omega),if_neg e,e1]
theorem kE {α:Type}{S:α->Prop}{f:α->α->Int}(h:LO S f):LO (fun l:List α=>∀x∈l,S x) (cr f):=by
 have hi:=ordI_lo;refine⟨fun a b ha hb=>?_,fun a b c ha hb hc h1 h2=>?_⟩
 ·have e1:=hi.sym (a.length:Int) (b.length:Int) trivial trivial;have e2:=sJ h ha hb;unfold cr nz;by_cases e:bY (a.length:Int) b.length=0
  ·rw[if_pos (by omega),if_pos e,e2]
  ·rw[if_neg (by omega),if_neg e,e1]
 ·simp only[cr,DW,nz_zero]at*
  have t:=hi.tr (a.length:Int) b.length c.length trivial trivial trivial (by omega) (by omega);by_cases e:bY (a.length:Int) c.length=0
  ·obtain⟨z1,z2⟩:=t.2 e;have l1:=eh z1;have l2:=eh z2;have u:=(ww h a.length).tr a b c ⟨rfl,ha⟩ ⟨by omega,hb⟩ ⟨by omega,hc⟩ (by omega) (by omega);exact⟨.inr ⟨e,u.1⟩,fun⟨_,z⟩=>⟨⟨z1,(u.2 z).1⟩,⟨z2,(u.2 z).2⟩⟩⟩
  ·exact⟨.inl (by omega),fun⟨z,_⟩=>absurd z e⟩
theorem wy {α:Type}{S:α->Prop}{f:α->α->Int}(h:EQ S f):∀{a b:List α},a.length=b.length->(∀x∈a,S x)->(∀x∈b,S x)->ec f a b=0->a=b
 |[],[],_,_,_,_=>rfl
 |[],_::_,hl,_,_,_=>by simp at hl
 |_::_,[],hl,_,_,_=>by simp at hl
 | x :: r, y :: s, hl, ha, hb, hz => by
   simp only[ec,nz_zero]at hz;rw[h x y (ha x (by simp)) (hb y (by simp)) hz.1,wy h (by simpa using hl) (fun z hz=>ha z (by simp[hz])) (fun z hz=>hb z (by simp[hz])) hz.2]
theorem kF {α:Type}{S:α->Prop}{f:α->α->Int}(h:EQ S f):EQ (fun l:List α=>∀x∈l,S x) (cr f):=fun a b ha hb hz=>by
 simp only[cr,nz_zero]at hz;have:=eh hz.1;exact wy h (by omega) ha hb hz.2
def Cw(a b:Bool):Int:=if a=b then 0 else if a then -1 else 1
theorem ordF_lo:LO (fun _=>True) Cw:=by
 refine⟨fun a b _ _=>by cases a<;>cases b<;>decide,fun a b c _ _ _=>by cases a<;>cases b<;>cases c<;>decide⟩
theorem Cx {a b:Bool}(h:Cw a b=0):a=b:=by cases a<;>cases b<;>simp_all[Cw]
theorem gS:∀d,LO (fun v:VV=>v.ht<=d) bH/\LO (fun e:EE=>e.ht<=d) cmpE/\EQ (fun v:VV=>v.ht<=d) bH/\EQ (fun e:EE=>e.ht<=d) cmpE:=by
 have entry:∀d,LO (fun v:VV=>v.ht<=d) bH->EQ (fun v:VV=>v.ht<=d) bH->LO (fun e:EE=>e.ht<=d) cmpE/\EQ (fun e:EE=>e.ht<=d) cmpE:=by
  intro d h1 h2;refine⟨?_,fun a b ha hb hz=>?_⟩
  ·have e:cmpE=fun a b=>nz (cr bH a.args b.args) (nz (Cw a.fails b.fails) (bH a.res b.res)):=by funext a b;exact qF a b
   rw[e];exact((kE h1).pull EE.args fun e he x hx=>G9 (gF hx) he).nz ((ordF_lo.pull EE.fails fun _ _=>trivial).nz (h1.pull EE.res fun e he=>G9 (gG e) he))
  ·rw[qF]at hz;simp only[nz_zero]at hz;have e1:=kF h2 a.args b.args (fun x hx=>G9 (gF hx) ha) (fun x hx=>G9 (gF hx) hb) hz.1;have e2:=Cx hz.2.1;have e3:=h2 a.res b.res (G9 (gG a) ha) (G9 (gG b) hb) hz.2.2;cases a;cases b;simp only[EE.args,EE.fails,EE.res]at e1 e2 e3;rw[e1,e2,e3]
 intro d
 induction d with
 | zero =>
   have h1:LO (fun v:VV=>v.ht<=0) bH:=⟨fun a _ ha=>by have:=fx a;omega,fun a _ _ ha=>by have:=fx a;omega⟩
   have h2:EQ (fun v:VV=>v.ht<=0) bH:=fun a _ ha=>by have:=fx a;omega
   exact⟨h1,(entry 0 h1 h2).1,h2,(entry 0 h1 h2).2⟩
 | succ d ih =>
   obtain⟨i1,i2,i3,i4⟩:=ih;have kid:∀v:VV,v.ht<=d+1->∀x∈v.kids,x.ht<=d:=fun v hv x hx=>by have:=fS hx;omega
   have ent:∀v:VV,v.ht<=d+1->∀x∈v.ents,x.ht<=d:=fun v hv x hx=>by have:=ip hx;omega
   have h1:LO (fun v:VV=>v.ht<=d+1) bH:=by
    have e:bH=fun a b=>nz (bY a.kind b.kind) (nz (bY a.num b.num) (nz (bD a.text b.text) (nz (cr bN a.keys b.keys) (nz (cr bH a.kids b.kids) (nz (cr cmpE a.ents b.ents) (cr bD a.labels b.labels)))))):=by funext a b;exact qE a b
    rw[e];exact(ordI_lo.pull VV.kind fun _ _=>trivial).nz ((ordI_lo.pull VV.num fun _ _=>trivial).nz ((ordS_lo.pull VV.text fun _ _=>trivial).nz (((kE Cu).pull VV.keys fun _ _ _ _=>trivial).nz
     (((kE i1).pull VV.kids kid).nz (((kE i2).pull VV.ents ent).nz ((kE ordS_lo).pull VV.labels fun _ _ _ _=>trivial))))))
   have h2:EQ (fun v:VV=>v.ht<=d+1) bH:=fun a b ha hb hz=>by
    rw[qE]at hz;simp only[nz_zero]at hz;obtain⟨z1,z2,z3,z4,z5,z6,z7⟩:=hz;have e1:=eh z1;have e2:=eh z2;have e3:=ir z3;have e4:=kF (S:=fun _=>True) (fun _ _ _ _ h=>Cv h) _ _ (fun _ _=>trivial) (fun _ _=>trivial) z4;have e5:=kF i3 _ _ (kid a ha) (kid b hb) z5;have e6:=kF i4 _ _ (ent a ha) (ent b hb) z6;have e7:=kF (S:=fun _=>True) (fun _ _ _ _ h=>ir h) _ _ (fun _ _=>trivial) (fun _ _=>trivial) z7;cases a;cases b;simp only[VV.kind,VV.num,VV.text,VV.keys,VV.kids,VV.ents,VV.labels]at e1 e2 e3 e4 e5 e6 e7;rw[e1,e2,e3,e4,e5,e6,e7]
   exact⟨h1,(entry _ h1 h2).1,h2,(entry _ h1 h2).2⟩
theorem cmpE_lo:LO (fun _=>True) cmpE:=
 ⟨fun a b _ _=>(gS (max a.ht b.ht)).2.1.sym a b (by omega) (by omega),fun a b c _ _ _=>(gS (max a.ht (max b.ht c.ht))).2.1.tr a b c (by omega) (by omega) (by omega)⟩
theorem cmpV_lo:LO (fun _=>True) bH:=
 ⟨fun a b _ _=>(gS (max a.ht b.ht)).1.sym a b (by omega) (by omega),fun a b c _ _ _=>(gS (max a.ht (max b.ht c.ht))).1.tr a b c (by omega) (by omega) (by omega)⟩
theorem zI {a b:EE}(h:cmpE a b=0):a=b:=(gS (max a.ht b.ht)).2.2.2 a b (by omega) (by omega) h
theorem sK {a b:VV}(h:bH a b=0):a=b:=(gS (max a.ht b.ht)).2.2.1 a b (by omega) (by omega) h
end Go.Proofs.YtfpahmeploondaaGreatDoor
