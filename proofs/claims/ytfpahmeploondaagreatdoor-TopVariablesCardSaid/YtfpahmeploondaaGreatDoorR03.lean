/- Walks and plain facts for the law on type variables, for all values and types that the heap holds (texts Guard Idl Frl Na Nb). -/
import Derived.Test.YtfpahmeploondaaGreatDoorChecked
import Derived.Lib.Hide
import Derived.Test.YtfpahmeploondaaGreatDoorR02
set_option linter.unusedVariables false
set_option linter.unusedSimpArgs false
set_option maxHeartbeats 64000000
open Option renaming none -> G0, some -> G5
open Bool renaming true -> G6, false -> G7
open Go.Value renaming string -> GW, int -> GX
open Go.IntKind renaming i64 -> GZ
open Go renaming Program -> Ia
namespace Go.Lex
open Go
theorem aI {P:Ia}{Q:Exit->Act->World->Prop}{id:Nat}{ops:Array Oper}{a:Act}{w:World}(h:(Code.region id ops G6).wp P Q a w):(Code.region id ops G6).wp P Q a w:=h
theorem Gq {P:Ia}{ops:Array Oper}{a:Act}{R:Prop}(h:Lex.fin P ops a=G6/\R):Lex.fin P ops a=G6/\R:=h
theorem aP {Kp:Nat->Prop}{P:Ia}{ops:Array Oper}{a b:Act}{R:Prop}{lf k:Nat}{w:World}{l:List Oper}(h:Lex.fin P ops a=G6/\LexK.io Kp lf ops w b l k/\R):Lex.fin P ops a=G6/\LexK.io Kp lf ops w b l k/\R:=h
theorem Gr {Kp:Nat->Prop}{P:Ia}{ops:Array Oper}{Q:Exit->Act->World->Prop}{l:List Oper}{a:Act}{w:World}(h:LexK.wpX Kp P ops Q l a w):LexK.wpX Kp P ops Q l a w:=h
theorem aX {Kp:Nat->Prop}{w w':World}{R:Prop}(h:LexK.Ext Kp w w'/\R):LexK.Ext Kp w w'/\R:=h
end Go.Lex
namespace Go.Proofs.YtfpahmeploondaaGreatDoor
open Go.RowKit
theorem rg {P:Ia}{Q:Exit->Act->World->Prop}{id:Nat}{a:Act}{w:World}{l:List Oper}(h:wpList P l.toArray (Exit.then (fun a w=>Lex.fin P l.toArray a=G6/\Q .normal a w) (fun _ _ _=>False)) l a w.drew)(hm:P.follows .mixedOrders=true:=by kernel_rfl)(hB:Lex.Ee P l=true:=by decide+kernel):(Code.region id l.toArray G6).wp P Q a w:=Lex.pg hm hB h
theorem fo {P:Ia}{ops:Array Oper}{a:Act}{R:Prop}(k:R)(h:Lex.fin P ops a=true:=by kernel_rfl):Lex.fin P ops a=G6/\R:=⟨h,k⟩
theorem qH {Kp:Nat->Prop}{P:Ia}{ops:Array Oper}{Q:Exit->Act->World->Prop}{o:Oper}{rest:List Oper}{a:Act}{w:World}(h:wpList P ops (Exit.then (LexK.wpX Kp P ops Q rest) (fun _ _ _=>False)) [o] a w)(hc:(LexK.cD P o.op==2)=false:=by decide+kernel):LexK.wpX Kp P ops Q (o::rest) a w:=LexK.xY hc h
theorem fE {Kp:Nat->Prop}{P:Ia}{ops:Array Oper}{a:Act}{w0:World}{lf:Nat}{l:List Oper}{R:Prop}(h2:LexK.io Kp lf ops w0 a l 0)(k:R)(h:Lex.fin P ops a=true:=by kernel_rfl):Lex.fin P ops a=G6/\LexK.io Kp lf ops w0 a l 0/\R:=⟨h,h2,k⟩
theorem zH {P:Prop}(h:P):Hid P:=Lib.hid h
theorem rR {a b:Prop}(h:a\/b)(k: ¬b:=by decide):a:=h.resolve_right k
theorem sR {P:Ia}{ops:Array Oper}{rest:List Oper}{o:Oper}{a:Act}{w:World}{Q:Exit->Act->World->Prop}{g:Nat}{cells old:Array Value}{t:TypeId}(hgd:o.guard=G0)(ty:TypeId)(x y:Operand)(ho:o.op=.store ty x y)(hx:a.eval x=.pointer (G5 ⟨g,0,G0⟩))(hy:a.eval y=.agg cells)(hg:w.heap[g]? =G5 (.cells old t (0,0)))(h:wpList P ops Q rest (a.put o.dst undef) (w.setRow g cells))(hi:(P.info? ty).map (·.size)=G5 cells.size:=by kernel_rfl)(hold:old.size=cells.size:=by kernel_rfl)(h1:cells.all (·.oneCell')=true:=by kernel_rfl):wpList P ops Q (o::rest) a w:=wpList_store_row hgd ty x y ho g cells hx hy t old hg hi hold h1 h
theorem rB {P:Ia}{fn:Func}{R:Ending->World->Prop}{a:Act}{w:World}{p:Tmp}{ty:TypeId}{cs:Array Value}{d:TypeDesc}(h:fn.results= #[.cell p ty])(g:Nat)(t:TypeId)(hp:a.tmps.getD p undef=.pointer (G5 ⟨g,0,G0⟩))(hg:w.heap[g]? =G5 (.cells cs t (0,0)))(hu:P.underlying ty=G5 d)(hd:(match d with| .struct _| .array _ _=>G6|_=>G7)=G6)(hf:a.defers=[])(hR:R (.returned (.agg cs)) w)(hi:(P.info? ty).map (·.size)=G5 cs.size:=by kernel_rfl):bodyPost P fn R .ret a w:=bodyPost_ret (results_cell_row h _ _ g t cs (0,0) d hp hg hu hd hi) hf hR
theorem sH {w:World}{g:Nat}{old cs:Array Value}{t:TypeId}{fr:Nat×Nat}(hg:w.heap[g]? =G5 (.cells old t fr)):(w.setRow g cs).heap[g]? =G5 (.cells cs t fr):=setRow_heap _ _ _ _ _ _ hg
theorem gL {P:Ia}{Q:Exit->Act->World->Prop}(Kp:Nat->Prop){id:Nat}{a:Act}{w:World}{l:List Oper}(h:LexK.wpX Kp P l.toArray (Exit.then (fun a' w'=>Lex.fin P l.toArray a'=G6/\LexK.io Kp (LexK.sv P l) l.toArray w.drew a' l 0/\Q .normal a' w') (fun _ _ _=>False)) l a w.drew)(hm:P.follows .mixedOrders=true:=by kernel_rfl)(hB:LexK.Eh P l=true:=by decide+kernel):(Code.region id l.toArray G6).wp P Q a w:=LexK.fR Kp hm hB h
theorem _root_.Go.RowKit.Hid.o {P:Prop}(h:Hid P):P:=h.out
end Go.Proofs.YtfpahmeploondaaGreatDoor
namespace Go.Ident
def lA(c:UInt8):Bool:=decide (97<=c)&&decide (c<=122)
def ph(c:UInt8):Bool:=decide (65<=c)&&decide (c<=90)
def pi(c:UInt8):Bool:=decide (48<=c)&&decide (c<=57)
def cZ(c:UInt8):Bool:=lA c||pi c||decide (c=95)
def cM(c:UInt8):Bool:=lA c||ph c||pi c||decide (c=95)
def xZ(f g:UInt8->Bool):List UInt8->Bool
 |[]=>G7
 |c::r=>decide (r.length<=15)&&(f c&&r.all g)
def eb(l:List UInt8):Bool:=xZ lA cZ l
def dG(l:List UInt8):Bool:=xZ ph cM l
def dq(k:Int)(l:List UInt8):Bool:=if k=0 then eb l else if k=1 then decide (l.length<=64)else G7
def FA(n:UInt8):UInt8:=if n<10 then 48+n else 87+n
def q1(c:UInt8):List UInt8:=
 if c=34\/c=92 then[92,c]else if 32<=c/\c<=126 then[c]else[92,120,FA (c>>>4),FA (c&&&15)]
def Gs(kind i:Nat):UInt8:=if kind=1 then 0 else if i=0 then 97 else 48
def low(kind n:Nat):List UInt8:=(List.range n).map (Gs kind)
end Go.Ident
namespace Go.Proofs.YtfpahmeploondaaGreatDoor
open Go.RowKit Go.Ident
set_option maxRecDepth 100000 in
theorem gP(c:UInt8)(w:World):Calls Tryz.prog 29 #[GX .u8 c.toNat] w fun e w'=>e=.returned (.bool (lA c))/\w'=w:=by
 unfold lA;simp only[UInt8.le_iff_toNat_le];by_cases h1:97<=c.toNat
 ·by_cases h2:c.toNat<=122
  ·have d1:decide ((c.toNat:Int)>=97)=true:=by simp;omega
   have d2:decide ((c.toNat:Int)<=122)=true:=by simp;omega
   go_enter Tryz.func29,Tryz.ntmps29;go_wp2;go_ret;simp[h1,h2]
  ·have d1:decide ((c.toNat:Int)>=97)=true:=by simp;omega
   have d2:decide ((c.toNat:Int)<=122)=false:=by simp;omega
   go_enter Tryz.func29,Tryz.ntmps29;go_wp2;go_ret;simp[h1,h2]
 ·have d1:decide ((c.toNat:Int)>=97)=false:=by simp;omega
  go_enter Tryz.func29,Tryz.ntmps29;go_wp2;go_ret;simp[h1]
set_option maxRecDepth 100000 in
theorem lB(c:UInt8)(w:World):Calls Tryz.prog 118 #[GX .u8 c.toNat] w fun e w'=>e=.returned (.bool (ph c))/\w'=w:=by
 unfold ph;simp only[UInt8.le_iff_toNat_le];by_cases h1:65<=c.toNat
 ·by_cases h2:c.toNat<=90
  ·have d1:decide ((c.toNat:Int)>=65)=true:=by simp;omega
   have d2:decide ((c.toNat:Int)<=90)=true:=by simp;omega
   go_enter Tryz.func118,Tryz.ntmps118;go_wp2;go_ret;simp[h1,h2]
  ·have d1:decide ((c.toNat:Int)>=65)=true:=by simp;omega
   have d2:decide ((c.toNat:Int)<=90)=false:=by simp;omega
   go_enter Tryz.func118,Tryz.ntmps118;go_wp2;go_ret;simp[h1,h2]
 ·have d1:decide ((c.toNat:Int)>=65)=false:=by simp;omega
  go_enter Tryz.func118,Tryz.ntmps118;go_wp2;go_ret;simp[h1]
set_option maxRecDepth 100000 in
theorem jk(c:UInt8)(w:World):Calls Tryz.prog 31 #[GX .u8 c.toNat] w fun e w'=>e=.returned (.bool (pi c))/\w'=w:=by
 unfold pi;simp only[UInt8.le_iff_toNat_le];by_cases h1:48<=c.toNat
 ·by_cases h2:c.toNat<=57
  ·have d1:decide ((c.toNat:Int)>=48)=true:=by simp;omega
   have d2:decide ((c.toNat:Int)<=57)=true:=by simp;omega
   go_enter Tryz.func31,Tryz.ntmps31;go_wp2;go_ret;simp[h1,h2]
  ·have d1:decide ((c.toNat:Int)>=48)=true:=by simp;omega
   have d2:decide ((c.toNat:Int)<=57)=false:=by simp;omega
   go_enter Tryz.func31,Tryz.ntmps31;go_wp2;go_ret;simp[h1,h2]
 ·have d1:decide ((c.toNat:Int)>=48)=false:=by simp;omega
  go_enter Tryz.func31,Tryz.ntmps31;go_wp2;go_ret;simp[h1]
set_option maxRecDepth 100000 in
theorem jP(c:UInt8)(w:World):Calls Tryz.prog 134 #[GX .u8 c.toNat] w fun e w'=>e=.returned (.bool (lA c))/\w'=w:=by
 unfold lA;simp only[UInt8.le_iff_toNat_le];by_cases h1:97<=c.toNat
 ·by_cases h2:c.toNat<=122
  ·have d1:decide ((c.toNat:Int)>=97)=true:=by simp;omega
   have d2:decide ((c.toNat:Int)<=122)=true:=by simp;omega
   go_enter Tryz.func134,Tryz.ntmps134;go_wp2;go_ret;simp[h1,h2]
  ·have d1:decide ((c.toNat:Int)>=97)=true:=by simp;omega
   have d2:decide ((c.toNat:Int)<=122)=false:=by simp;omega
   go_enter Tryz.func134,Tryz.ntmps134;go_wp2;go_ret;simp[h1,h2]
 ·have d1:decide ((c.toNat:Int)>=97)=false:=by simp;omega
  go_enter Tryz.func134,Tryz.ntmps134;go_wp2;go_ret;simp[h1]
set_option maxRecDepth 100000 in
theorem nq(c:UInt8)(w:World):Calls Tryz.prog 133 #[GX .u8 c.toNat] w fun e w'=>e=.returned (.bool (ph c))/\w'=w:=by
 unfold ph;simp only[UInt8.le_iff_toNat_le];by_cases h1:65<=c.toNat
 ·by_cases h2:c.toNat<=90
  ·have d1:decide ((c.toNat:Int)>=65)=true:=by simp;omega
   have d2:decide ((c.toNat:Int)<=90)=true:=by simp;omega
   go_enter Tryz.func133,Tryz.ntmps133;go_wp2;go_ret;simp[h1,h2]
  ·have d1:decide ((c.toNat:Int)>=65)=true:=by simp;omega
   have d2:decide ((c.toNat:Int)<=90)=false:=by simp;omega
   go_enter Tryz.func133,Tryz.ntmps133;go_wp2;go_ret;simp[h1,h2]
 ·have d1:decide ((c.toNat:Int)>=65)=false:=by simp;omega
  go_enter Tryz.func133,Tryz.ntmps133;go_wp2;go_ret;simp[h1]
set_option maxRecDepth 100000 in
theorem nr(c:UInt8)(w:World):Calls Tryz.prog 135 #[GX .u8 c.toNat] w fun e w'=>e=.returned (.bool (pi c))/\w'=w:=by
 unfold pi;simp only[UInt8.le_iff_toNat_le];by_cases h1:48<=c.toNat
 ·by_cases h2:c.toNat<=57
  ·have d1:decide ((c.toNat:Int)>=48)=true:=by simp;omega
   have d2:decide ((c.toNat:Int)<=57)=true:=by simp;omega
   go_enter Tryz.func135,Tryz.ntmps135;go_wp2;go_ret;simp[h1,h2]
  ·have d1:decide ((c.toNat:Int)>=48)=true:=by simp;omega
   have d2:decide ((c.toNat:Int)<=57)=false:=by simp;omega
   go_enter Tryz.func135,Tryz.ntmps135;go_wp2;go_ret;simp[h1,h2]
 ·have d1:decide ((c.toNat:Int)>=48)=false:=by simp;omega
  go_enter Tryz.func135,Tryz.ntmps135;go_wp2;go_ret;simp[h1]
theorem Gt(c:UInt8):(c=95)=(c.toNat=95):=by
 apply propext;constructor
 ·rintro rfl;rfl
 ·intro h;exact UInt8.toNat_inj.1 h
theorem wk(c:UInt8):((c.toNat:Int)==95)=decide (c=95):=by
 simp only[Gt];by_cases h:c.toNat=95
 ·simp[h]
 ·simp[h];omega
set_option maxRecDepth 100000 in
theorem uN(c:UInt8)(w:World):Calls Tryz.prog 30 #[GX .u8 c.toNat] w fun e w'=>e=.returned (.bool (cZ c))/\w'=w:=by
 unfold cZ;have d0:=wk c;cases b0:lA c with
 | true =>
   have t0:=gP c;rw[b0]at t0;go_enter Tryz.func30,Tryz.ntmps30;go_wp2_with(first
    |(go_at_call 29;refine(t0 _).mono ?_;rintro e w1 ⟨rfl,rfl⟩))
   go_ret;simp
 | false =>
   have t0:=gP c;rw[b0]at t0;cases b1:pi c with
   | true =>
     have t1:=jk c;rw[b1]at t1;go_enter Tryz.func30,Tryz.ntmps30;go_wp2_with(first
      |(go_at_call 29;refine(t0 _).mono ?_;rintro e w1 ⟨rfl,rfl⟩)
      |(go_at_call 31;refine(t1 _).mono ?_;rintro e w1 ⟨rfl,rfl⟩))
     go_ret;simp
   | false =>
     have t1:=jk c;rw[b1]at t1;go_enter Tryz.func30,Tryz.ntmps30;go_wp2_with(first
      |(go_at_call 29;refine(t0 _).mono ?_;rintro e w1 ⟨rfl,rfl⟩)
      |(go_at_call 31;refine(t1 _).mono ?_;rintro e w1 ⟨rfl,rfl⟩))
     go_ret;simp
set_option maxRecDepth 100000 in
theorem uO(c:UInt8)(w:World):Calls Tryz.prog 119 #[GX .u8 c.toNat] w fun e w'=>e=.returned (.bool (cM c))/\w'=w:=by
 unfold cM;have d0:=wk c;cases b0:lA c with
 | true =>
   have t0:=gP c;rw[b0]at t0;go_enter Tryz.func119,Tryz.ntmps119;go_wp2_with(first
    |(go_at_call 29;refine(t0 _).mono ?_;rintro e w1 ⟨rfl,rfl⟩))
   go_ret;simp
 | false =>
   have t0:=gP c;rw[b0]at t0;cases b1:ph c with
   | true =>
     have t1:=lB c;rw[b1]at t1;go_enter Tryz.func119,Tryz.ntmps119;go_wp2_with(first
      |(go_at_call 29;refine(t0 _).mono ?_;rintro e w1 ⟨rfl,rfl⟩)
      |(go_at_call 118;refine(t1 _).mono ?_;rintro e w1 ⟨rfl,rfl⟩))
     go_ret;simp
   | false =>
     have t1:=lB c;rw[b1]at t1;cases b2:pi c with
     | true =>
       have t2:=jk c;rw[b2]at t2;go_enter Tryz.func119,Tryz.ntmps119;go_wp2_with(first
        |(go_at_call 29;refine(t0 _).mono ?_;rintro e w1 ⟨rfl,rfl⟩)
        |(go_at_call 118;refine(t1 _).mono ?_;rintro e w1 ⟨rfl,rfl⟩)
        |(go_at_call 31;refine(t2 _).mono ?_;rintro e w1 ⟨rfl,rfl⟩))
       go_ret;simp
     | false =>
       have t2:=jk c;rw[b2]at t2;go_enter Tryz.func119,Tryz.ntmps119;go_wp2_with(first
        |(go_at_call 29;refine(t0 _).mono ?_;rintro e w1 ⟨rfl,rfl⟩)
        |(go_at_call 118;refine(t1 _).mono ?_;rintro e w1 ⟨rfl,rfl⟩)
        |(go_at_call 31;refine(t2 _).mono ?_;rintro e w1 ⟨rfl,rfl⟩))
       go_ret;simp
end Go.Proofs.YtfpahmeploondaaGreatDoor
namespace Go.Proofs.YtfpahmeploondaaGreatDoor
open Go.RowKit Go.Ident
section
variable {f g:UInt8->Bool} {s:ByteArray}
theorem ff(h:s.size<1\/16<s.size):xZ f g s.data.toList=false:=by
 have hl:s.data.toList.length=s.size:=by show _=s.data.size;simp
 generalize s.data.toList=l at*
 match l,hl with
 |[],_=>rfl
 | c :: r, hl =>
   have: ¬r.length<=15:=by simp at hl;omega
   simp[xZ,this]
theorem mG(h1:0<s.size)(h2:s.size<=16):xZ f g s.data.toList=(f s[0]&&(s.data.toList.drop 1).all g):=by
 obtain⟨⟨l⟩⟩:=s
 match l,h1,h2 with
 | c :: r, h1, h2 =>
   have:r.length<=15:=by simp[ByteArray.size]at h2;omega
   simp[xZ,this];rfl
theorem kw {k:Nat}(h:k<s.size):(s.data.toList.drop k).all g=(g s[k]&&(s.data.toList.drop (k+1)).all g):=by
 rw[List.drop_eq_getElem_cons (show k<s.data.toList.length by show _<s.data.toList.length;simpa using h)];rfl
theorem mH {k:Nat}(h:s.size<=k):(s.data.toList.drop k).all g=true:=by
 rw[List.drop_eq_nil_of_le (by show s.data.toList.length<=k;simpa using h)];rfl
end
set_option maxRecDepth 100000 in
theorem sx(s:ByteArray)(w:World):Calls Tryz.prog 28 #[GW s,.func (.func 29) #[] #[],.func (.func 30) #[] #[]] w fun e w'=>e=.returned (.bool (eb s.data.toList))/\w'=w:=by
 unfold eb;by_cases h1:s.size<1
 ·rw[ff (.inl h1)];go_enter Tryz.func28,Tryz.ntmps28;go_wp2;go_ret;exact⟨rfl,rfl⟩
 by_cases h2:16<s.size
 ·rw[ff (.inr h2)];have d1:decide ((s.size:Int)<1)=false:=by simp;omega
  have d2:decide ((s.size:Int)>16)=true:=by simp;omega
  go_enter Tryz.func28,Tryz.ntmps28;go_wp2;go_ret;exact⟨rfl,rfl⟩
 rw[mG (by omega) (by omega)];obtain⟨R,hR⟩:∃R,R=(s.data.toList.drop 1).all cZ:=⟨_,rfl⟩
 rw[<-hR];have HR:=zH hR;clear hR;have d1:decide ((s.size:Int)<1)=false:=by simp;omega
 have d2:decide ((s.size:Int)>16)=false:=by simp;omega
 have t0:=gP (s[0]'(by omega));cases hc:lA (s[0]'(by omega))with
 | false =>
   rw[hc]at t0;go_enter Tryz.func28,Tryz.ntmps28;go_wp2_with(first
    |(go_at_call 29;refine(t0 _).mono ?_;rintro e w1 ⟨rfl,rfl⟩))
   go_ret;exact⟨rfl,rfl⟩
 | true =>
   rw[hc]at t0;go_enter Tryz.func28,Tryz.ntmps28;go_wp2_with(first
    |(go_at_call 29;refine(t0 _).mono ?_;rintro e w1 ⟨rfl,rfl⟩))
   clear t0;go_loop[7] (fun i=>∃k:Nat,1<=k/\k<=s.size/\i=GX GZ k/\(s.data.toList.drop k).all cZ=R) (fun i=>s.size-(intOf i).toNat)
   case atStart=>exact⟨1,by omega,by omega,rfl,HR.o.symm⟩
   case round=>
    obtain⟨k,hk1,hk2,rfl,he⟩:=hrel;by_cases hlt:k<s.size
    ·have he2:=kw (g:=cZ) hlt;have t1:=uN s[k];cases hb:cZ s[k]with
     | true =>
       rw[hb]at t1 he2;have He:=zH (he2.symm.trans he);clear he he2;go_wp2_with(first
        |(go_at_call 30;refine(t1 _).mono ?_;rintro e w1 ⟨rfl,rfl⟩))
       exact⟨⟨k+1,by omega,by omega,by go_num,He.o⟩,by simp[intOf];omega⟩
     | false =>
       rw[hb]at t1 he2;have He:=zH (he2.symm.trans he);clear he he2;go_wp2_with(first
        |(go_at_call 30;refine(t1 _).mono ?_;rintro e w1 ⟨rfl,rfl⟩))
       go_ret;exact⟨by rw[<-He.o];rfl,rfl⟩
    ·have He:=zH ((mH (s:=s) (g:=cZ) (by omega)).symm.trans he);clear he;obtain rfl:k=s.size:=by omega
     go_wp2;go_ret;exact⟨by rw[<-He.o];rfl,rfl⟩
set_option maxRecDepth 100000 in
theorem sy(s:ByteArray)(w:World):Calls Tryz.prog 28 #[GW s,.func (.func 118) #[] #[],.func (.func 119) #[] #[]] w fun e w'=>e=.returned (.bool (dG s.data.toList))/\w'=w:=by
 unfold dG;by_cases h1:s.size<1
 ·rw[ff (.inl h1)];go_enter Tryz.func28,Tryz.ntmps28;go_wp2;go_ret;exact⟨rfl,rfl⟩
 by_cases h2:16<s.size
 ·rw[ff (.inr h2)];have d1:decide ((s.size:Int)<1)=false:=by simp;omega
  have d2:decide ((s.size:Int)>16)=true:=by simp;omega
  go_enter Tryz.func28,Tryz.ntmps28;go_wp2;go_ret;exact⟨rfl,rfl⟩
 rw[mG (by omega) (by omega)];obtain⟨R,hR⟩:∃R,R=(s.data.toList.drop 1).all cM:=⟨_,rfl⟩
 rw[<-hR];have HR:=zH hR;clear hR;have d1:decide ((s.size:Int)<1)=false:=by simp;omega
 have d2:decide ((s.size:Int)>16)=false:=by simp;omega
 have t0:=lB (s[0]'(by omega));cases hc:ph (s[0]'(by omega))with
 | false =>
   rw[hc]at t0;go_enter Tryz.func28,Tryz.ntmps28;go_wp2_with(first
    |(go_at_call 118;refine(t0 _).mono ?_;rintro e w1 ⟨rfl,rfl⟩))
   go_ret;exact⟨rfl,rfl⟩
 | true =>
   rw[hc]at t0;go_enter Tryz.func28,Tryz.ntmps28;go_wp2_with(first
    |(go_at_call 118;refine(t0 _).mono ?_;rintro e w1 ⟨rfl,rfl⟩))
   clear t0;go_loop[7] (fun i=>∃k:Nat,1<=k/\k<=s.size/\i=GX GZ k/\(s.data.toList.drop k).all cM=R) (fun i=>s.size-(intOf i).toNat)
   case atStart=>exact⟨1,by omega,by omega,rfl,HR.o.symm⟩
   case round=>
    obtain⟨k,hk1,hk2,rfl,he⟩:=hrel;by_cases hlt:k<s.size
    ·have he2:=kw (g:=cM) hlt;have t1:=uO s[k];cases hb:cM s[k]with
     | true =>
       rw[hb]at t1 he2;have He:=zH (he2.symm.trans he);clear he he2;go_wp2_with(first
        |(go_at_call 119;refine(t1 _).mono ?_;rintro e w1 ⟨rfl,rfl⟩))
       exact⟨⟨k+1,by omega,by omega,by go_num,He.o⟩,by simp[intOf];omega⟩
     | false =>
       rw[hb]at t1 he2;have He:=zH (he2.symm.trans he);clear he he2;go_wp2_with(first
        |(go_at_call 119;refine(t1 _).mono ?_;rintro e w1 ⟨rfl,rfl⟩))
       go_ret;exact⟨by rw[<-He.o];rfl,rfl⟩
    ·have He:=zH ((mH (s:=s) (g:=cM) (by omega)).symm.trans he);clear he;obtain rfl:k=s.size:=by omega
     go_wp2;go_ret;exact⟨by rw[<-He.o];rfl,rfl⟩
set_option maxRecDepth 100000 in
theorem nu(s:ByteArray)(w:World):Calls Tryz.prog 12 #[GW s] w fun e w'=>e=.returned (.bool (eb s.data.toList))/\w'=w:=by
 go_enter Tryz.func12,Tryz.ntmps12;go_wp2_with(first
  |(go_at_call 28;refine(sx s _).mono ?_;rintro e w1 ⟨rfl,rfl⟩))
 go_ret;exact⟨rfl,rfl⟩
set_option maxRecDepth 100000 in
theorem ny(s:ByteArray)(w:World):Calls Tryz.prog 85 #[GW s] w fun e w'=>e=.returned (.bool (dG s.data.toList))/\w'=w:=by
 go_enter Tryz.func85,Tryz.ntmps85;go_wp2_with(first
  |(go_at_call 28;refine(sy s _).mono ?_;rintro e w1 ⟨rfl,rfl⟩))
 go_ret;exact⟨rfl,rfl⟩
set_option maxRecDepth 100000 in
theorem eZ(s:ByteArray)(w:World):Calls Tryz.prog 96 #[GW s] w fun e w'=>e=.returned (.bool (eb s.data.toList))/\w'=w:=by
 unfold eb;by_cases h1:s.size<1
 ·rw[ff (.inl h1)];go_enter Tryz.func96,Tryz.ntmps96;go_wp2;go_ret;exact⟨rfl,rfl⟩
 by_cases h2:16<s.size
 ·rw[ff (.inr h2)];have d1:decide ((s.size:Int)<1)=false:=by simp;omega
  have d2:decide ((s.size:Int)>16)=true:=by simp;omega
  go_enter Tryz.func96,Tryz.ntmps96;go_wp2;go_ret;exact⟨rfl,rfl⟩
 rw[mG (by omega) (by omega)];obtain⟨R,hR⟩:∃R,R=(s.data.toList.drop 1).all cZ:=⟨_,rfl⟩
 rw[<-hR];have HR:=zH hR;clear hR;have d1:decide ((s.size:Int)<1)=false:=by simp;omega
 have d2:decide ((s.size:Int)>16)=false:=by simp;omega
 have t0:=jP (s[0]'(by omega));cases hc:lA (s[0]'(by omega))with
 | false =>
   rw[hc]at t0;go_enter Tryz.func96,Tryz.ntmps96;go_wp2_with(first
    |(go_at_call 134;refine(t0 _).mono ?_;rintro e w1 ⟨rfl,rfl⟩))
   go_ret;exact⟨rfl,rfl⟩
 | true =>
   rw[hc]at t0;go_enter Tryz.func96,Tryz.ntmps96;go_wp2_with(first
    |(go_at_call 134;refine(t0 _).mono ?_;rintro e w1 ⟨rfl,rfl⟩))
   clear t0;go_loop[3] (fun i=>∃k:Nat,1<=k/\k<=s.size/\i=GX GZ k/\(s.data.toList.drop k).all cZ=R) (fun i=>s.size-(intOf i).toNat)
   case atStart=>exact⟨1,by omega,by omega,rfl,HR.o.symm⟩
   case round=>
    obtain⟨k,hk1,hk2,rfl,he⟩:=hrel;by_cases hlt:k<s.size
    ·have he2:=kw (g:=cZ) hlt;have trlower:=jP s[k];cases b0:lA s[k]with
     | true =>
       rw[b0]at trlower;have hb:cZ s[k]=true:=by simp[cZ,b0]
       rw[hb]at he2;have He:=zH (he2.symm.trans he);clear he he2 hb b0;go_wp2_with(first
        |(go_at_call 134;refine(trlower _).mono ?_;rintro e w1 ⟨rfl,rfl⟩))
       exact⟨⟨k+1,by omega,by omega,by go_num,He.o⟩,by simp[intOf];omega⟩
     | false =>
       rw[b0]at trlower;have trdigit:=nr s[k];cases b1:pi s[k]with
       | true =>
         rw[b1]at trdigit;have hb:cZ s[k]=true:=by simp[cZ,b0,b1]
         rw[hb]at he2;have He:=zH (he2.symm.trans he);clear he he2 hb b0 b1;go_wp2_with(first
          |(go_at_call 134;refine(trlower _).mono ?_;rintro e w1 ⟨rfl,rfl⟩)
          |(go_at_call 135;refine(trdigit _).mono ?_;rintro e w1 ⟨rfl,rfl⟩))
         exact⟨⟨k+1,by omega,by omega,by go_num,He.o⟩,by simp[intOf];omega⟩
       | false =>
         rw[b1]at trdigit;have d9:=wk s[k];by_cases h9:s[k]=95
         ·rw[decide_eq_true h9]at d9;have d8:((s[k].toNat:Int)!=95)=false:=by simp only[bne,d9];rfl
          have hb:cZ s[k]=true:=by simp[cZ,h9]
          rw[hb]at he2;have He:=zH (he2.symm.trans he);clear he he2 hb b0 b1 h9;go_wp2_with(first
           |(go_at_call 134;refine(trlower _).mono ?_;rintro e w1 ⟨rfl,rfl⟩)
           |(go_at_call 135;refine(trdigit _).mono ?_;rintro e w1 ⟨rfl,rfl⟩))
          exact⟨⟨k+1,by omega,by omega,by go_num,He.o⟩,by simp[intOf];omega⟩
         ·rw[decide_eq_false h9]at d9;have d8:((s[k].toNat:Int)!=95)=true:=by simp only[bne,d9];rfl
          have hb:cZ s[k]=false:=by simp[cZ,b0,b1,h9]
          rw[hb]at he2;have He:=zH (he2.symm.trans he);clear he he2 hb b0 b1 h9;go_wp2_with(first
           |(go_at_call 134;refine(trlower _).mono ?_;rintro e w1 ⟨rfl,rfl⟩)
           |(go_at_call 135;refine(trdigit _).mono ?_;rintro e w1 ⟨rfl,rfl⟩))
          go_ret;exact⟨by rw[<-He.o];rfl,rfl⟩
    ·have He:=zH ((mH (s:=s) (g:=cZ) (by omega)).symm.trans he);clear he;obtain rfl:k=s.size:=by omega
     go_wp2;go_ret;exact⟨by rw[<-He.o];rfl,rfl⟩
set_option maxRecDepth 100000 in
theorem eJ(s:ByteArray)(w:World):Calls Tryz.prog 95 #[GW s] w fun e w'=>e=.returned (.bool (dG s.data.toList))/\w'=w:=by
 unfold dG;by_cases h1:s.size<1
 ·rw[ff (.inl h1)];go_enter Tryz.func95,Tryz.ntmps95;go_wp2;go_ret;exact⟨rfl,rfl⟩
 by_cases h2:16<s.size
 ·rw[ff (.inr h2)];have d1:decide ((s.size:Int)<1)=false:=by simp;omega
  have d2:decide ((s.size:Int)>16)=true:=by simp;omega
  go_enter Tryz.func95,Tryz.ntmps95;go_wp2;go_ret;exact⟨rfl,rfl⟩
 rw[mG (by omega) (by omega)];obtain⟨R,hR⟩:∃R,R=(s.data.toList.drop 1).all cM:=⟨_,rfl⟩
 rw[<-hR];have HR:=zH hR;clear hR;have d1:decide ((s.size:Int)<1)=false:=by simp;omega
 have d2:decide ((s.size:Int)>16)=false:=by simp;omega
 have t0:=nq (s[0]'(by omega));cases hc:ph (s[0]'(by omega))with
 | false =>
   rw[hc]at t0;go_enter Tryz.func95,Tryz.ntmps95;go_wp2_with(first
    |(go_at_call 133;refine(t0 _).mono ?_;rintro e w1 ⟨rfl,rfl⟩))
   go_ret;exact⟨rfl,rfl⟩
 | true =>
   rw[hc]at t0;go_enter Tryz.func95,Tryz.ntmps95;go_wp2_with(first
    |(go_at_call 133;refine(t0 _).mono ?_;rintro e w1 ⟨rfl,rfl⟩))
   clear t0;go_loop[3] (fun i=>∃k:Nat,1<=k/\k<=s.size/\i=GX GZ k/\(s.data.toList.drop k).all cM=R) (fun i=>s.size-(intOf i).toNat)
   case atStart=>exact⟨1,by omega,by omega,rfl,HR.o.symm⟩
   case round=>
    obtain⟨k,hk1,hk2,rfl,he⟩:=hrel;by_cases hlt:k<s.size
    ·have he2:=kw (g:=cM) hlt;have trlower:=jP s[k];cases b0:lA s[k]with
     | true =>
       rw[b0]at trlower;have hb:cM s[k]=true:=by simp[cM,b0]
       rw[hb]at he2;have He:=zH (he2.symm.trans he);clear he he2 hb b0;go_wp2_with(first
        |(go_at_call 134;refine(trlower _).mono ?_;rintro e w1 ⟨rfl,rfl⟩))
       exact⟨⟨k+1,by omega,by omega,by go_num,He.o⟩,by simp[intOf];omega⟩
     | false =>
       rw[b0]at trlower;have trupper:=nq s[k];cases b1:ph s[k]with
       | true =>
         rw[b1]at trupper;have hb:cM s[k]=true:=by simp[cM,b0,b1]
         rw[hb]at he2;have He:=zH (he2.symm.trans he);clear he he2 hb b0 b1;go_wp2_with(first
          |(go_at_call 134;refine(trlower _).mono ?_;rintro e w1 ⟨rfl,rfl⟩)
          |(go_at_call 133;refine(trupper _).mono ?_;rintro e w1 ⟨rfl,rfl⟩))
         exact⟨⟨k+1,by omega,by omega,by go_num,He.o⟩,by simp[intOf];omega⟩
       | false =>
         rw[b1]at trupper;have trdigit:=nr s[k];cases b2:pi s[k]with
         | true =>
           rw[b2]at trdigit;have hb:cM s[k]=true:=by simp[cM,b0,b1,b2]
           rw[hb]at he2;have He:=zH (he2.symm.trans he);clear he he2 hb b0 b1 b2;go_wp2_with(first
            |(go_at_call 134;refine(trlower _).mono ?_;rintro e w1 ⟨rfl,rfl⟩)
            |(go_at_call 133;refine(trupper _).mono ?_;rintro e w1 ⟨rfl,rfl⟩)
            |(go_at_call 135;refine(trdigit _).mono ?_;rintro e w1 ⟨rfl,rfl⟩))
           exact⟨⟨k+1,by omega,by omega,by go_num,He.o⟩,by simp[intOf];omega⟩
         | false =>
           rw[b2]at trdigit;have d9:=wk s[k];by_cases h9:s[k]=95
           ·rw[decide_eq_true h9]at d9;have d8:((s[k].toNat:Int)!=95)=false:=by simp only[bne,d9];rfl
            have hb:cM s[k]=true:=by simp[cM,h9]
            rw[hb]at he2;have He:=zH (he2.symm.trans he);clear he he2 hb b0 b1 b2 h9;go_wp2_with(first
             |(go_at_call 134;refine(trlower _).mono ?_;rintro e w1 ⟨rfl,rfl⟩)
             |(go_at_call 133;refine(trupper _).mono ?_;rintro e w1 ⟨rfl,rfl⟩)
             |(go_at_call 135;refine(trdigit _).mono ?_;rintro e w1 ⟨rfl,rfl⟩))
            exact⟨⟨k+1,by omega,by omega,by go_num,He.o⟩,by simp[intOf];omega⟩
           ·rw[decide_eq_false h9]at d9;have d8:((s[k].toNat:Int)!=95)=true:=by simp only[bne,d9];rfl
            have hb:cM s[k]=false:=by simp[cM,b0,b1,b2,h9]
            rw[hb]at he2;have He:=zH (he2.symm.trans he);clear he he2 hb b0 b1 b2 h9;go_wp2_with(first
             |(go_at_call 134;refine(trlower _).mono ?_;rintro e w1 ⟨rfl,rfl⟩)
             |(go_at_call 133;refine(trupper _).mono ?_;rintro e w1 ⟨rfl,rfl⟩)
             |(go_at_call 135;refine(trdigit _).mono ?_;rintro e w1 ⟨rfl,rfl⟩))
            go_ret;exact⟨by rw[<-He.o];rfl,rfl⟩
    ·have He:=zH ((mH (s:=s) (g:=cM) (by omega)).symm.trans he);clear he;obtain rfl:k=s.size:=by omega
     go_wp2;go_ret;exact⟨by rw[<-He.o];rfl,rfl⟩
end Go.Proofs.YtfpahmeploondaaGreatDoor
