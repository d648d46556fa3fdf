/- Walks and plain facts for the law on type variables, for all values and types that the heap holds (texts Tj Ea). -/
import Derived.Test.YtfpahmeploondaaGreatDoorR01
import Derived.Test.YtfpahmeploondaaGreatDoorR03
import Derived.Test.YtfpahmeploondaaGreatDoorR14
set_option linter.unusedVariables false
set_option linter.unusedSimpArgs false
set_option maxHeartbeats 64000000
open Option renaming none -> G0, some -> G5
open Bool renaming true -> G6, false -> G7
open Go.Value renaming slice -> GU, int -> GX
open Go.Obj renaming cells -> GY
open Go.IntKind renaming i64 -> GZ
open Nat renaming le_refl -> G8, beq -> Ib
open Option renaming rec -> Iv
open Bool renaming rec -> Hj
open List renaming rec -> Iy
open Go renaming MapEntry -> IJ, Program -> Ia, Operand -> Ie
namespace Go.Proofs.YtfpahmeploondaaGreatDoor
open Go.RowKit Go.Ident
set_option maxRecDepth 100000
def sh2(m nl nn:Nat):Bool:=decide (nl<=m)&&decide (nn<=m)
theorem j6(m nl nn:Nat)(p q:Option Addr)(c d:Nat)(w:World)(g:Nat)(hg:w.heap[g]? =G5 (GY #[GU p nl c,GU q nn d] 22)):
 Calls Tryz.prog 4 #[GX GZ (m:Int),GU (G5 ⟨g,0,G0⟩) 2 2] w fun e w'=>e=.returned (.bool (sh2 m nl nn))/\w'=w:=by
 obtain⟨y0,y1⟩:=aM hg;clear hg;go_enter Tryz.func4,Tryz.ntmps4;go_wp2;go_loop[5] (fun iv=>∃k:Nat,iv=GX GZ (k:Int)/\k<=2/\(1<=k->nl<=m)/\(2<=k->nn<=m)) (fun iv=>2-(intOf iv).toNat)
 case atStart=>exact⟨0,rfl,by omega,fun h=>by omega,fun h=>by omega⟩
 case round=>
  obtain⟨k,rfl,hk,h1,h2⟩:=hrel;have H1:=zH h1;have H2:=zH h2;clear h1 h2
  match k,hk with
  | 0, _ =>
    by_cases hl:nl<=m
    ·have d9:decide (m<nl)=false:=by simp;omega
     go_wp2;exact⟨⟨1,rfl,by omega,fun _=>hl,fun h=>by omega⟩,by simp[intOf]⟩
    ·have d9:decide (m<nl)=true:=by simp;omega
     have hs:=zH (show sh2 m nl nn=G7 by unfold sh2;simp[hl]);go_wp2;go_ret;exact⟨by rw[hs.o];rfl,rfl⟩
  | 1, _ =>
    by_cases hl:nn<=m
    ·have d9:decide (m<nn)=false:=by simp;omega
     go_wp2;exact⟨⟨2,rfl,by omega,fun _=>H1.o (G8 _),fun _=>hl⟩,by simp[intOf]⟩
    ·have d9:decide (m<nn)=true:=by simp;omega
     have hs:=zH (show sh2 m nl nn=G7 by unfold sh2;simp[hl]);go_wp2;go_ret;exact⟨by rw[hs.o];rfl,rfl⟩
  | 2, _ =>
    have hs:=zH (show sh2 m nl nn=G6 by unfold sh2;simp[H1.o (by omega),H2.o (G8 _)]);go_wp2;go_ret;exact⟨by rw[hs.o];rfl,rfl⟩
end Go.Proofs.YtfpahmeploondaaGreatDoor
namespace Go.Ev
set_option linter.unusedVariables false
noncomputable section
inductive T (α:Type)where
 |nil
 |node (l:T α) (v:α) (r:T α)
variable {α β γ:Type}
def T.l(t:T α):T α:=T.rec (motive:=fun _=>T α) .nil (fun l _ _ _ _=>l) t
def T.r(t:T α):T α:=T.rec (motive:=fun _=>T α) .nil (fun _ _ r _ _=>r) t
def T.v(d:α)(t:T α):α:=T.rec (motive:=fun _=>α) d (fun _ v _ _ _=>v) t
def yM(k:Nat):List Bool:=Nat.rec (motive:=fun _=>Nat->List Bool) (fun _=>[]) (fun _ ih k=>Hj ((Ib (Nat.mod k 2) 1)::ih (Nat.div k 2)) [] (Ib k 0)) k k
def T.getP(d:α)(p:List Bool):T α->α:=Iy (motive:=fun _=>T α->α) (fun t=>t.v d) (fun b _ ih t=>T.rec (motive:=fun _=>α) d (fun l _ r _ _=>Hj (ih r) (ih l) b) t) p
def T.setP(d a:α)(p:List Bool):T α->T α:=Iy (motive:=fun _=>T α->T α) (fun t=>T.rec (motive:=fun _=>T α) (.node .nil a .nil) (fun l _ r _ _=>.node l a r) t) (fun b _ ih t=>T.rec (motive:=fun _=>T α) (Hj (.node .nil d (ih .nil)) (.node (ih .nil) d .nil) b) (fun l v r _ _=>Hj (.node l v (ih r)) (.node (ih l) v r) b) t) p
def T.get(d:α)(t:T α)(k:Nat):α:=t.getP d (yM k)
def T.set(d:α)(t:T α)(k:Nat)(a:α):T α:=t.setP d a (yM k)
inductive Blk where
 |cells (vs:List Value) (elem:TypeId) (es:Nat) (fz:Bool)
 |map (es:List IJ) (clock:Nat)
 |iter (m:Option Nat)
structure H where
 t:T (Option Blk)
 n:Nat
abbrev A:=T Value
abbrev R:=Except Unit
def no:R β:=.error ()
def R.b(x:R β)(f:β->R γ):R γ:=Except.rec (motive:=fun _=>R γ) (fun e=>.error e) f x
def GG(o:Option β):R β:=Iv (motive:=fun _=>R β) (.error ()) (fun x=>.ok x) o
def bp(b:Bool)(x:R β):R β:=Hj (.error ()) x b
inductive VH where
 |mk (v:Value) (h:H)
def vh(x:R VH)(f:Value->H->R γ):R γ:=Except.rec (motive:=fun _=>R γ) (fun e=>.error e) (fun p=>VH.rec (motive:=fun _=>R γ) f p) x
def ret(v:Value)(h:H):R VH:=.ok (.mk v h)
def same(h:H)(x:R Value):R VH:=R.b x fun v=>.ok (.mk v h)
def H.t'(h:H):T (Option Blk):=H.rec (motive:=fun _=>T (Option Blk)) (fun t _=>t) h
def H.get(h:H)(i:Nat):Option Blk:=h.t'.get G0 i
def H.put(h:H)(i:Nat)(b:Blk):H:=H.rec (motive:=fun _=>H) (fun t n=>⟨t.set G0 i (G5 b),n⟩) h
def H.del(h:H)(i:Nat):H:=H.rec (motive:=fun _=>H) (fun t n=>⟨t.set G0 i G0,n⟩) h
def H.new(h:H)(b:Blk):H:=H.rec (motive:=fun _=>H) (fun t n=>⟨t.set G0 n (G5 b),Nat.succ n⟩) h
def eR(v:Value):Bool:=Value.rec (motive_1:=fun _=>Bool) (motive_2:=fun _=>Bool) (motive_3:=fun _=>Bool) (fun _=>G6) (fun _ _=>G6) (fun _ _=>G6) (fun _ _ _=>G6) (fun _=>G6) (fun a=>Iv G6 (fun _=>G7) a) (fun a _ _=>Iv G6 (fun _=>G7) a) (fun m=>Iv G6 (fun _=>G7) m) (fun _=>G7) (fun _ _ _ x y=>Hj G7 y x) G6 (fun _ _ x=>x) G6 (fun _ x=>x) (fun _ x=>x) (fun _ x=>x) G6 (fun _ _ x y=>Hj G7 y x) v
def bad:Value:=.chan G0
def cst(v:Value):Value:=Hj bad v (eR v)
def T.ev(a:A)(o:Ie):Value:=Operand.rec (motive:=fun _=>A->Value) (fun t a=>a.get undef t) (fun v _=>cst v) (fun _ _=>bad) (fun f _=>.func (.func f) #[] #[]) o a
def iM(d:Option Tmp)(n:Nat)(a:A)(v:Value):A:=Iv (motive:=fun _=>A) a (fun d=>Hj a (a.set undef d v) (Nat.blt d n)) d
def w0:World:={heap:= #[],tape:=fun _ _=>0,drawn:=0,os:=default,output:= #[]}
def GH(P:Ia)(t:TypeId):Option Nat:=(P.info? t).map (·.size)
def GI(P:Ia)(t:TypeId):Option Value:=(P.info? t).bind (·.zero)
def Gv:TypeDesc->Bool| .struct _| .array _ _=>G6|_=>G7
def GJ(P:Ia)(t:TypeId):Option Bool:=(P.underlying t).map Gv
def GK(P:Ia)(t:TypeId):Option TypeId:=match P.underlying t with|some (.slice e)=>G5 e|_=>G0
def GL(P:Ia)(t:TypeId):Option Nat:=(GK P t).bind (GH P)
def GM(P:Ia)(t:TypeId):Option TypeId:=match P.underlying t with|some (.map _ e)=>G5 e|_=>G0
structure SL where
 a:Option Addr
 len:Nat
 cap:Nat
def iG(v:Value):R Bool:=Value.rec (motive_1:=fun _=>R Bool) (motive_2:=fun _=>Unit) (motive_3:=fun _=>Unit) (fun b=>.ok b) (fun _ _=>.error ()) (fun _ _=>.error ()) (fun _ _ _=>.error ()) (fun _=>.error ()) (fun _=>.error ()) (fun _ _ _=>.error ()) (fun _=>.error ()) (fun _=>.error ()) (fun _ _ _ _ _=>.error ()) (.error ()) (fun _ _ _=>.error ()) (.error ()) (fun _ _=>.error ()) (fun _ _=>.error ()) (fun _ _=>()) () (fun _ _ _ _=>()) v
structure IK where
 k:IntKind
 n:Int
def kW(v:Value):R IK:=Value.rec (motive_1:=fun _=>R IK) (motive_2:=fun _=>Unit) (motive_3:=fun _=>Unit) (fun _=>.error ()) (fun k n=>.ok ⟨k,n⟩) (fun _ _=>.error ()) (fun _ _ _=>.error ()) (fun _=>.error ()) (fun _=>.error ()) (fun _ _ _=>.error ()) (fun _=>.error ()) (fun _=>.error ()) (fun _ _ _ _ _=>.error ()) (.error ()) (fun _ _ _=>.error ()) (.error ()) (fun _ _=>.error ()) (fun _ _=>.error ()) (fun _ _=>()) () (fun _ _ _ _=>()) v
def kX(v:Value):R Addr:=Value.rec (motive_1:=fun _=>R Addr) (motive_2:=fun _=>Unit) (motive_3:=fun _=>Unit) (fun _=>.error ()) (fun _ _=>.error ()) (fun _ _=>.error ()) (fun _ _ _=>.error ()) (fun _=>.error ()) (fun a=>GG a) (fun _ _ _=>.error ()) (fun _=>.error ()) (fun _=>.error ()) (fun _ _ _ _ _=>.error ()) (.error ()) (fun _ _ _=>.error ()) (.error ()) (fun _ _=>.error ()) (fun _ _=>.error ()) (fun _ _=>()) () (fun _ _ _ _=>()) v
def fJ(v:Value):Option SL:=Value.rec (motive_1:=fun _=>Option SL) (motive_2:=fun _=>Unit) (motive_3:=fun _=>Unit) (fun _=>G0) (fun _ _=>G0) (fun _ _=>G0) (fun _ _ _=>G0) (fun _=>G0) (fun _=>G0) (fun a n c=>G5 ⟨a,n,c⟩) (fun _=>G0) (fun _=>G0) (fun _ _ _ _ _=>G0) (G0) (fun _ _ _=>G0) (G0) (fun _ _=>G0) (fun _ _=>G0) (fun _ _=>()) () (fun _ _ _ _=>()) v
def kY(v:Value):Option (Option Nat):=Value.rec (motive_1:=fun _=>Option (Option Nat)) (motive_2:=fun _=>Unit) (motive_3:=fun _=>Unit) (fun _=>G0) (fun _ _=>G0) (fun _ _=>G0) (fun _ _ _=>G0) (fun _=>G0) (fun _=>G0) (fun _ _ _=>G0) (fun m=>G5 m) (fun _=>G0) (fun _ _ _ _ _=>G0) (G0) (fun _ _ _=>G0) (G0) (fun _ _=>G0) (fun _ _=>G0) (fun _ _=>()) () (fun _ _ _ _=>()) v
def xd(v:Value):Option ByteArray:=Value.rec (motive_1:=fun _=>Option ByteArray) (motive_2:=fun _=>Unit) (motive_3:=fun _=>Unit) (fun _=>G0) (fun _ _=>G0) (fun _ _=>G0) (fun _ _ _=>G0) (fun s=>G5 s) (fun _=>G0) (fun _ _ _=>G0) (fun _=>G0) (fun _=>G0) (fun _ _ _ _ _=>G0) (G0) (fun _ _ _=>G0) (G0) (fun _ _=>G0) (fun _ _=>G0) (fun _ _=>()) () (fun _ _ _ _=>()) v
structure FV where
 fn:Fn
 first:Array Value
 cap:Array Value
def FW(v:Value):R FV:=Value.rec (motive_1:=fun _=>R FV) (motive_2:=fun _=>Unit) (motive_3:=fun _=>Unit) (fun _=>.error ()) (fun _ _=>.error ()) (fun _ _=>.error ()) (fun _ _ _=>.error ()) (fun _=>.error ()) (fun _=>.error ()) (fun _ _ _=>.error ()) (fun _=>.error ()) (fun _=>.error ()) (fun f x y _ _=>.ok ⟨f,x,y⟩) (.error ()) (fun _ _ _=>.error ()) (.error ()) (fun _ _=>.error ()) (fun _ _=>.error ()) (fun _ _=>()) () (fun _ _ _ _=>()) v
def eX(v:Value):List Value:=Value.rec (motive_1:=fun _=>List Value->List Value) (motive_2:=fun _=>Unit) (motive_3:=fun _=>Unit) (fun _ l=>l) (fun _ _ l=>l) (fun _ _ l=>l) (fun _ _ _ l=>l) (fun _ l=>l) (fun _ l=>l) (fun _ _ _ l=>l) (fun _ l=>l) (fun _ l=>l) (fun _ _ _ _ _ l=>l) (fun l=>l) (fun _ _ _ l=>l) (fun l=>l) (fun cs _ _=>cs.toList) (fun _ _ l=>l) (fun _ _=>()) () (fun _ _ _ _=>()) v [v]
def AE(v:Value):Bool:=Value.rec (motive_1:=fun _=>Bool) (motive_2:=fun _=>Unit) (motive_3:=fun _=>Unit) (fun _=>G6) (fun _ _=>G6) (fun _ _=>G6) (fun _ _ _=>G6) (fun _=>G6) (fun _=>G6) (fun _ _ _=>G6) (fun _=>G6) (fun _=>G7) (fun _ _ _ _ _=>G6) G6 (fun _ _ _=>G6) G6 (fun _ _=>G7) (fun _ _=>G7) (fun _ _=>()) () (fun _ _ _ _=>()) v
def ou(l:List Value):Bool:=Iy (motive:=fun _=>Bool) G6 (fun v _ ih=>Hj G7 ih (AE v)) l
def rp(z:Option Value):R (List Value):=R.b (GG z) fun z=>bp (eR z) (bp (ou (eX z)) (.ok (eX z)))
def len(x:List Value):Nat:=Iy (motive:=fun _=>Nat) 0 (fun _ _ ih=>Nat.succ ih) x
structure EI where
 s:Nat
 z:List Value
def tyA(P:Ia)(e:TypeId):R EI:=R.b (GG (P.info? e)) fun i=>R.b (rp i.zero) fun z=>bp (Ib (len z) i.size) (bp (Nat.ble i.bytes 1048576) (.ok ⟨i.size,z⟩))
structure Row where
 vs:List Value
 e:TypeId
 es:Nat
 fz:Bool
def E4(b:Blk):Option Row:=Blk.rec (motive:=fun _=>Option Row) (fun vs e es fz=>G5 ⟨vs,e,es,fz⟩) (fun _ _=>G0) (fun _=>G0) b
def H.row(h:H)(i:Nat):R Row:=GG (Iv (motive:=fun _=>Option Row) G0 E4 (h.get i))
structure lQ where
 es:List IJ
 c:Nat
def E5(b:Blk):Option lQ:=Blk.rec (motive:=fun _=>Option lQ) (fun _ _ _ _=>G0) (fun es c=>G5 ⟨es,c⟩) (fun _=>G0) b
def H.mapR(h:H)(i:Nat):R lQ:=GG (Iv (motive:=fun _=>Option lQ) G0 E5 (h.get i))
def D4(b:Blk):Option (Option Nat):=Blk.rec (motive:=fun _=>Option (Option Nat)) (fun _ _ _ _=>G0) (fun _ _=>G0) (fun m=>G5 m) b
def drop(n:Nat):List Value->List Value:=Nat.rec (motive:=fun _=>List Value->List Value) (fun l=>l) (fun _ ih l=>Iy (motive:=fun _=>List Value) [] (fun _ r _=>ih r) l) n
def take(n:Nat):List Value->List Value:=Nat.rec (motive:=fun _=>List Value->List Value) (fun _=>[]) (fun _ ih l=>Iy (motive:=fun _=>List Value) [] (fun x r _=>x::ih r) l) n
def app(x y:List Value):List Value:=Iy (motive:=fun _=>List Value) y (fun a _ ih=>a::ih) x
def nth(l:List Value)(n:Nat):R Value:=Iy (motive:=fun _=>R Value) (.error ()) (fun x _ _=>.ok x) (drop n l)
def cut(vs:List Value)(off n:Nat):R (List Value):=bp (Nat.ble (Nat.add off n) (len vs)) (.ok (take n (drop off vs)))
def splice(vs new:List Value)(off:Nat):List Value:=app (take off vs) (app new (drop (Nat.add off (len new)) vs))
def cell(a:Addr)(f:Nat->Nat->R γ):R γ:=Addr.rec (motive:=fun _=>R γ) (fun i off sp=>Iv (motive:=fun _=>R γ) (f i off) (fun _=>.error ()) sp) a
def isAgg(b:Bool)(t:R Nat)(vs:List Value)(off:Nat):R Value:=Hj (nth vs off) (R.b t fun n=>R.b (cut vs off n) fun l=>.ok (.agg l.toArray)) b
def gU(P:Ia)(h:H)(t:TypeId)(p:Value):R Value:=
 R.b (kX p) fun a=>cell a fun i off=>R.b (h.row i) fun r=>R.b (GG (GJ P t)) fun b=>isAgg b (GG (GH P t)) r.vs off
def E6(n:Option Nat)(h:H)(i off:Nat)(new:List Value)(r:Row):R VH:=
 R.b (GG n) fun n=>bp (Ib n (len new)) (bp (Nat.ble (Nat.add off n) (len r.vs)) (bp (ou new) (Hj (ret undef (h.put i (.cells (splice r.vs new off) r.e r.es G7))) (.error ()) r.fz)))
def AF(P:Ia)(h:H)(t:TypeId)(p v:Value):R VH:=
 R.b (kX p) fun a=>cell a fun i off=>R.b (h.row i) fun r=>E6 (GH P t) h i off (eX v) r
def okV:Result Next->R Value| .ok (.value v) _=>.ok v|_=>.error ()
def AG(P:Ia)(a:A)(o:Oper):R Value:=okV ((execOp a.ev o).run P w0)
def Db(n:Int):R Nat:=Int.rec (motive:=fun _=>R Nat) (fun n=>.ok n) (fun _=>.error ()) n
def fB(v:Value):R Nat:=R.b (kW v) fun x=>Db x.n
def D5(place:Nat->Option (Nat×Nat))(p:Nat×Value)(k:List Value->R (List Value))(cs:List Value):R (List Value):=
 R.b (GG (place p.1)) fun q=>bp (Ib (len (eX p.2)) q.2) (bp (Nat.ble (Nat.add q.1 q.2) (len cs)) (bp (ou (eX p.2)) (k (splice cs (eX p.2) q.1))))
def xe(place:Nat->Option (Nat×Nat))(l:List (Nat×Value)):List Value->R (List Value):=
 Iy (motive:=fun _=>List Value->R (List Value)) (fun cs=>.ok cs) (fun p _ ih cs=>D5 place p ih cs) l
def AJ(P:Ia)(f:Field):Option (Nat×Nat):=(P.info? f.type).map fun i=>(f.offset,i.size)
def AK(P:Ia)(t:TypeId):Option (Nat->Option (Nat×Nat)):=
 match P.underlying t with
 |some (.struct fs)=>(fs.toList.mapM (AJ P)).map fun l i=>l[i]?
 |some (.array _ e)=>(P.info? e).map fun i j=>G5 (j*i.size,i.size)
 |_=>G0
def E7(es:Nat)(a:Addr)(cap l h:Nat):R Value:=
 Addr.rec (motive:=fun _=>R Value) (fun i off sp=>Hj
  (.ok (.slice (G5 ⟨i,Nat.add off (Nat.mul l es),sp⟩) (Nat.sub h l) (Nat.sub cap l)))
  (Iv (motive:=fun _=>R Value) (.ok (.slice (G5 ⟨i,off,G0⟩) (Nat.sub h l) (Nat.sub cap l))) (fun _=>.error ()) sp) (Hj (Ib l cap) G7 (Ib l 0))) a
def Fa(es:Nat)(a:Option Addr)(cap l h:Nat):R Value:=
 bp (Nat.ble l h) (bp (Nat.ble h cap) (Iv (motive:=fun _=>R Value) (.ok (.slice G0 (Nat.sub h l) (Nat.sub cap l))) (fun a=>E7 es a cap l h) a))
def AL(es l m:Nat)(a:Addr):Addr:=Addr.rec (motive:=fun _=>Addr) (fun i off _=>⟨i,Hj (Nat.add off (Nat.mul l es)) off (Ib m l),G0⟩) a
def Dc(es:Nat)(a:Option Addr)(cap l h m:Nat):R Value:=
 bp (Nat.ble l h) (bp (Nat.ble h m) (bp (Nat.ble m cap) (.ok (.slice (Option.map (AL es l m) a) (Nat.sub h l) (Nat.sub m l)))))
def i8(d:Nat)(a:A)(o:Option Ie):R Nat:=Iv (motive:=fun _=>R Nat) (.ok d) (fun x=>fB (a.ev x)) o
def rq(P:Ia)(t:TypeId)(a:A)(lo hi mx:Option Ie)(x:SL):R Value:=
 R.b (GG (GL P t)) fun es => R.b (i8 0 a lo) fun l => R.b (i8 x.len a hi) fun h =>
   Iv (motive:=fun _=>R Value) (Fa es x.a x.cap l h) (fun m=>R.b (GG hi) fun _=>R.b (fB (a.ev m)) fun m=>Dc es x.a x.cap l h m) mx
def AM(b:UInt8):Value:=.int .u8 b.toNat
def ju(h:H)(es n:Nat)(a:Option Addr):R (List Value):=
 Iv (motive:=fun _=>R (List Value)) (bp (Ib n 0) (.ok [])) (fun a=>Addr.rec (motive:=fun _=>R (List Value)) (fun i off _=>R.b (h.row i) fun r=>cut r.vs off (Nat.mul n es)) a) a
structure Src where
 n:Nat
 l:R (List Value)
def Fb(h:H)(es:Nat)(v:Value):R Src:=
 Iv (motive:=fun _=>R Src) (Iv (motive:=fun _=>R Src) (.error ()) (fun s=>bp (Ib es 1) (.ok ⟨s.size,.ok (s.data.toList.map AM)⟩)) (xd v)) (fun s=>.ok ⟨s.len,ju h es s.len s.a⟩) (fJ v)
def rr(h:H)(e es need:Nat)(vs:List Value):R VH:=ret (.slice (G5 ⟨h.n,0,G5 0⟩) need need) (h.new (.cells vs e es G7))
def D6(h:H)(es i off:Nat)(sp:Option Nat)(ln cap n:Nat)(new:List Value)(r:Row):R VH:=
 bp (Nat.ble (Nat.add off (Nat.mul (Nat.add ln n) es)) (len r.vs)) (bp (ou new) (Hj (ret (.slice (G5 ⟨i,off,sp⟩) (Nat.add ln n) cap) (h.put i (.cells (splice r.vs new (Nat.add off (Nat.mul ln es))) r.e r.es G7))) (.error ()) r.fz))
def AN(h:H)(e es i off:Nat)(sp:Option Nat)(ln cap n:Nat)(new:List Value)(r:Row):R VH:=
 R.b (cut r.vs off (Nat.mul ln es)) fun old => Iv (motive := fun _ => R VH) (rr h e es (Nat.add ln n) (app old new))
   (fun _=>bp (Ib off 0) (bp (Ib (Nat.add off (Nat.mul cap es)) (len r.vs)) (bp (Ib es r.es) (bp (Ib e r.e) (bp (ou new) (Hj (rr (h.del i) e es (Nat.add ln n) (app old new)) (.error ()) r.fz)))))) sp
def AO(h:H)(e es:Nat)(ln cap n:Nat)(new:List Value)(a:Addr):R VH:=
 Addr.rec (motive:=fun _=>R VH) (fun i off sp=>R.b (h.row i) fun r=>Hj (AN h e es i off sp ln cap n new r) (D6 h es i off sp ln cap n new r) (Nat.ble (Nat.add ln n) cap)) a
def xf(h:H)(e es:Nat)(v:Value)(s:SL)(n:Nat)(new:List Value):R VH:=
 Hj (Iv (motive:=fun _=>R VH) (bp (Ib s.len 0) (bp (Ib s.cap 0) (rr h e es (Nat.add s.len n) new))) (fun a=>AO h e es s.len s.cap n new a) s.a) (bp (Nat.ble s.len s.cap) (ret v h)) (Ib n 0)
def Dd(P:Ia)(h:H)(t:TypeId)(s x:Value):R VH:=
 R.b (GG (GK P t)) fun e=>R.b (tyA P e) fun i=>R.b (Fb h i.s x) fun y=>R.b y.l fun new=>R.b (GG (fJ s)) fun q=>bp (Nat.ble (Nat.add q.len y.n) 1048576) (xf h e i.s s q y.n new)
def qc:Value->Value->R Bool
 | .int k a,.int k' b=>if k=k' then .ok (decide (a=b))else .error ()
 | .string a,.string b=>.ok (decide (a.data.toList=b.data.toList))
 |_,_=>.error ()
def tD(k:Value)(l:List IJ):R (Option IJ):=Iy (motive:=fun _=>R (Option IJ)) (.ok G0) (fun e _ ih=>R.b (qc k e.key) fun b=>Hj ih (.ok (G5 e)) b) l
def ow(k v:Value)(l:List IJ):List IJ:=Iy (motive:=fun _=>List IJ) [] (fun e r ih=>Except.rec (motive:=fun _=>List IJ) (fun _=>e::ih) (fun b=>Hj (e::ih) ({e with val:=v}::r) b) (qc k e.key)) l
def evs(a:A)(l:List (Nat×Ie)):List (Nat×Value):=Iy (motive:=fun _=>List (Nat×Value)) [] (fun x _ ih=>(x.1,a.ev x.2)::ih) l
def evl(a:A)(l:List Ie):List Value:=Iy (motive:=fun _=>List Value) [] (fun x _ ih=>a.ev x::ih) l
abbrev bU:=FuncId->List Value->H->R VH
abbrev OpF:=Ia->bU->A->H->Oper->R VH
def AP(x:Ie):OpF:=fun _ _ a h _=>ret (a.ev x) h
def tE(c x y:Ie):OpF:=fun _ _ a h _=>R.b (iG (a.ev c)) fun b=>ret (Hj (a.ev y) (a.ev x) b) h
def AQ(e:TypeId):OpF:=fun P _ _ h _=>R.b (rp (GI P e)) fun z=>ret (.pointer (G5 ⟨h.n,0,G0⟩)) (h.new (.cells z e 0 G7))
def Gw(e:TypeId)(h:H)(l:List Value):R VH:=bp (ou l) (ret (.pointer (G5 ⟨h.n,0,G0⟩)) (h.new (.cells l e 0 G7)))
def AT(e:TypeId)(x:Ie):OpF:=fun _ _ a h _=>Gw e h (eX (a.ev x))
def oA(t:TypeId)(parts:Array (Nat×Ie)):OpF:=fun P _ a h _=>R.b (rp (GI P t)) fun z=>R.b (GG (AK P t)) fun pl=>R.b (xe pl (evs a parts.toList) z) fun c=>ret (.agg c.toArray) h
def rep(n:Nat)(z:List Value):List Value:=Nat.rec (motive:=fun _=>List Value) [] (fun _ ih=>app z ih) n
def fq(t:TypeId)(n:Nat)(parts:Array (Nat×Ie)):OpF:=fun P _ a h _=>R.b (GG (GK P t)) fun e=>R.b (tyA P e) fun i=>bp (Nat.ble (Nat.mul n i.s) 16777216)
 (R.b (xe (fun j=>G5 (Nat.mul j i.s,i.s)) (evs a parts.toList) (rep n i.z)) fun c=>ret (.slice (G5 ⟨h.n,0,G0⟩) n n) (h.new (.cells c e 0 G7)))
def tF(t:TypeId)(x:Ie):OpF:=fun P _ a h _=>same h (gU P h t (a.ev x))
def oB(t:TypeId)(x v:Ie):OpF:=fun P _ a h _=>AF P h t (a.ev x) (a.ev v)
def oC(a:A)(l:List Ie):Bool:=Iy (motive:=fun _=>Bool) G6 (fun x _ ih=>Hj G7 ih (eR (a.ev x))) l
def bM:OpF:=fun P _ a h o=>bp (Ib (Lex.cls P o.op) 0) (bp (Lex.gj a.ev o.op) (bp (oC a o.op.operands.toList) (R.b (AG P a o) fun v=>bp (eR v) (ret v h))))
def gV(f:Fn)(x y:Array Ie):OpF:=fun _ _ a h _=>ret (.func f (evl a x.toList).toArray (evl a y.toList).toArray) h
def D7(v:Value):R (List Value):=Value.rec (motive_1:=fun _=>R (List Value)) (motive_2:=fun _=>Unit) (motive_3:=fun _=>Unit) (fun _=>.error ()) (fun _ _=>.error ()) (fun _ _=>.error ()) (fun _ _ _=>.error ()) (fun _=>.error ()) (fun _=>.error ()) (fun _ _ _=>.error ()) (fun _=>.error ()) (fun _=>.error ()) (fun _ _ _ _ _=>.error ()) (.error ()) (fun _ _ _=>.error ()) (.error ()) (fun _ _=>.error ()) (fun vs _=>.ok vs.toList) (fun _ _=>()) () (fun _ _ _ _=>()) v
def i9(x:Ie)(i:Nat):OpF:=fun _ _ a h _=>R.b (D7 (a.ev x)) fun l=>same h (nth l i)
def D8(v:Value):R (List Value):=Value.rec (motive_1:=fun _=>R (List Value)) (motive_2:=fun _=>Unit) (motive_3:=fun _=>Unit) (fun _=>.error ()) (fun _ _=>.error ()) (fun _ _=>.error ()) (fun _ _ _=>.error ()) (fun _=>.error ()) (fun _=>.error ()) (fun _ _ _=>.error ()) (fun _=>.error ()) (fun _=>.error ()) (fun _ _ _ _ _=>.error ()) (.error ()) (fun _ _ _=>.error ()) (.error ()) (fun vs _=>.ok vs.toList) (fun _ _=>.error ()) (fun _ _=>()) () (fun _ _ _ _=>()) v
def GO(P:Ia)(t:TypeId)(f:Nat):Option Field:=match P.underlying t with|some (.struct fs)=>fs.toList[f]? |_=>G0
def oD(t:TypeId)(x:Ie)(f:Nat):OpF:=fun P _ a h _=>R.b (D8 (a.ev x)) fun l=>R.b (GG (GO P t f)) fun g=>R.b (GG (GJ P g.type)) fun b=>same h (isAgg b (GG (GH P g.type)) l g.offset)
def fK(a:Option Addr):Bool:=Iv G6 (fun _=>G7) a
def oE(neg:Bool)(t:TypeId)(x y:Ie):OpF:=fun P c a h o=>Iv (motive:=fun _=>R VH) (bM P c a h o) (fun s=>R.b (GG (fJ (a.ev y))) fun r=>bp (fK r.a) (R.b (GG (GK P t)) fun _=>ret (.bool (Hj (fK s.a) (Hj G6 G7 (fK s.a)) neg)) h)) (fJ (a.ev x))
def rt(t:TypeId)(x:Ie)(l hi m:Option Ie):OpF:=fun P c a h o=>Iv (motive:=fun _=>R VH) (bM P c a h o) (fun s=>same h (rq P t a l hi m s)) (fJ (a.ev x))
def oF(a b:IntKind):Bool:=Ib a.ctorIdx b.ctorIdx
def GP(v:Value):R UInt8:=R.b (kW v) fun x=>bp (oF x.k .u8) (R.b (Db x.n) fun n=>bp (Nat.blt n 256) (.ok n.toUInt8))
def lR(l:List Value):R (List UInt8):=Iy (motive:=fun _=>R (List UInt8)) (.ok []) (fun v _ ih=>R.b (GP v) fun b=>R.b ih fun r=>.ok (b::r)) l
def Fc(h:H)(s:SL):R VH:=R.b (ju h 1 s.len s.a) fun l=>R.b (lR l) fun b=>ret (.string ⟨b.toArray⟩) h
def xg(s t el:Option TypeDesc):Bool:=match s,t,el with|some (.slice _),G5 .string,G5 (.int .u8)=>G6|_,_,_=>G7
def kZ(s t:TypeId)(x:Ie):OpF:=fun P c a h o=>Iv (motive:=fun _=>R VH) (bM P c a h o) (fun l=>bp (xg (P.underlying s) (P.underlying t) ((GK P s).bind P.underlying)) (Fc h l)) (fJ (a.ev x))
def Fe(es k:Nat)(s:SL):R Value:=bp (Nat.blt k s.len) (R.b (GG s.a) fun a=>.ok (Addr.rec (motive:=fun _=>Value) (fun i off _=>.pointer (G5 ⟨i,Nat.add off (Nat.mul k es),G0⟩)) a))
structure AI where
 n:Nat
 s:Nat
def GQ(P:Ia)(t:TypeId):Option AI:=match P.underlying t with|some (.array n e)=>(GH P e).map (AI.mk n)|_=>G0
def AU(off:Nat)(a:Addr):R Value:=Addr.rec (motive:=fun _=>R Value) (fun i o sp=>Iv (motive:=fun _=>R Value) (.ok (.pointer (G5 ⟨i,Nat.add o off,G0⟩))) (fun _=>.error ()) sp) a
def vB(P:Ia)(t:TypeId)(h:H)(x ix:Value):R VH:=R.b (GG (GQ P t)) fun q=>R.b (kX x) fun p=>R.b (fB ix) fun k=>bp (Nat.blt k q.n) (same h (AU (Nat.mul k q.s) p))
def iH(t:TypeId)(x ix:Ie):OpF:=fun P c a h o=>Iv (motive:=fun _=>R VH) (vB P t h (a.ev x) (a.ev ix)) (fun s=>R.b (GG (GL P t)) fun es=>R.b (fB (a.ev ix)) fun k=>same h (Fe es k s)) (fJ (a.ev x))
def tG:OpF:=fun _ _ _ h _=>ret (.map (G5 h.n)) (h.new (.map [] 0))
def fY(t:TypeId)(l c:Ie):OpF:=fun P _ a h _=>R.b (GG (GK P t)) fun e=>R.b (tyA P e) fun i=>R.b (fB (a.ev l)) fun l=>R.b (fB (a.ev c)) fun c=>
 bp (Nat.ble l c) (bp (Nat.ble c 1048576) (ret (.slice (G5 ⟨h.n,0,G0⟩) l c) (h.new (.cells (rep c i.z) e 0 G7))))
def De(h:H)(m:Option Nat):R lQ:=Iv (motive:=fun _=>R lQ) (.ok ⟨[],0⟩) (fun i=>h.mapR i) m
def mapA(h:H)(v:Value):R lQ:=R.b (GG (kY v)) fun m=>De h m
def okT(ok:Bool)(v:Value)(b:Bool):Value:=Hj v (.tuple #[v,.bool b]) ok
def FX(ok:Bool)(z:Value)(m:Option IJ):Value:=Iv (motive:=fun _=>Value) (okT ok z G7) (fun m=>okT ok m.val G6) m
def ru(d:Option TypeDesc)(k:Value):Bool:=match d,k with|some (.int _),.int _ _=>G6|some .string,.string _=>G6|_,_=>G7
def Df(P:Ia)(t:TypeId):Option TypeDesc:=match P.underlying t with|some (.map k _)=>P.underlying k|_=>G0
def lc(t:TypeId)(x k:Ie)(ok:Bool):OpF:=fun P _ a h _=>bp (ru (Df P t) (a.ev k)) (R.b (mapA h (a.ev x)) fun m=>R.b (GG (GM P t)) fun e=>R.b (tD (a.ev k) m.es) fun r=>R.b (GG (GI P e)) fun z=>bp (eR z) (ret (FX ok z r) h))
def upd(h:H)(i:Nat)(k v:Value)(m:lQ)(r:Option IJ):H:=Iv (motive:=fun _=>H) (h.put i (.map (m.es++[⟨k,v,m.c⟩]) (Nat.succ m.c))) (fun _=>h.put i (.map (ow k v m.es) m.c)) r
def fL(t:TypeId)(m k v:Ie):OpF:=fun P _ a h _=>bp (ru (Df P t) (a.ev k)) (R.b (GG (kY (a.ev m))) fun i=>R.b (GG i) fun i=>R.b (h.mapR i) fun m=>R.b (tD (a.ev k) m.es) fun r=>ret undef (upd h i (a.ev k) (a.ev v) m r))
def AV(l:List IJ)(x:R VH):R VH:=Iy (motive:=fun _=>R VH) x (fun _ _ _=>.error ()) l
def oG(t:TypeId)(x:Ie):OpF:=fun P _ a h _=>R.b (GG (GM P t)) fun _=>R.b (GG (kY (a.ev x))) fun m=>R.b (De h m) fun q=>AV q.es (ret (.pointer (G5 ⟨h.n,0,G0⟩)) (h.new (.iter m)))
def tH(x:Ie)(str:Bool):OpF:=fun _ _ a h _=>R.b (kX (a.ev x)) fun p=>cell p fun i off=>bp (Ib off 0) (Hj (R.b (GG (Iv (motive:=fun _=>Option (Option Nat)) G0 D4 (h.get i))) fun m=>R.b (De h m) fun q=>AV q.es (ret (.tuple #[.bool G7]) h)) (.error ()) str)
def qd(ts:List TypeId):R TypeId:=Iy (motive:=fun _=>R TypeId) (.error ()) (fun t _ _=>.ok t) ts
def tI(ts:List TypeId)(x:Ie):OpF:=fun P c a h o=>Iv (motive:=fun _=>R VH) (Iv (motive:=fun _=>R VH) (bM P c a h o) (fun _=>R.b (qd ts) fun t=>R.b (GG (GM P t)) fun _=>R.b (mapA h (a.ev x)) fun m=>ret (.int .i64 m.es.length) h) (kY (a.ev x))) (fun s=>R.b (qd ts) fun t=>R.b (GG (GK P t)) fun _=>ret (.int .i64 (Int.ofNat s.len)) h) (fJ (a.ev x))
def AW(P:Ia)(ts:Array TypeId):Bool:=match ts[1]?with|some t=>(match P.underlying t with|some (.int _)=>G7|some _=>G6|none=>G7)|none=>G6
def iI(ts:Array TypeId)(s x:Ie):OpF:=fun P _ a h _=>bp (AW P ts) (R.b (qd ts.toList) fun t=>Dd P h t (a.ev s) (a.ev x))
def AX(v:Value):Bool:=match v with| .pointer _=>G6|_=>G7
def iJ(x:Ie):OpF:=fun _ _ a h _=>R.b (GG (fJ (a.ev x))) fun s=>same h (Iv (motive:=fun _=>R Value) (.ok (.pointer G0)) (fun a=>bp (Nat.blt 0 s.cap) (.ok (Addr.rec (motive:=fun _=>Value) (fun i off _=>.pointer (G5 ⟨i,off,G0⟩)) a))) s.a)
def GS(P:Ia)(ts:List TypeId):Option TypeId:=match ts with|[t,_]=>(match P.underlying t with|some (.pointer e)=>G5 e|_=>G0)|_=>G0
def Ff(P:Ia)(h:H)(ts:List TypeId)(p:Value)(n:Nat):R VH:=R.b (kX p) fun a=>cell a fun i off=>bp (Ib off 0) (R.b (h.row i) fun r=>R.b (GG (GS P ts)) fun e=>bp (Ib e r.e) (bp (Ib (P.cellsOf e) 1) (bp (Nat.ble n 1048576)
 (R.b (cut r.vs 0 n) fun l=>R.b (lR l) fun bs=>ret (.string ⟨bs.toArray⟩) (h.put i (.cells r.vs r.e r.es G6))))))
def fZ(ts:List TypeId)(x y:Ie):OpF:=fun P _ a h _=>R.b (kW (a.ev y)) fun m=>bp (oF m.k .i64) (R.b (Db m.n) fun n=>Hj (Ff P h ts (a.ev x) n) (bp (AX (a.ev x)) (R.b (GG (GS P ts)) fun _=>ret (.string ⟨#[]⟩) h)) (Ib n 0))
def Gx(f:Fn):R FuncId:=match f with| .func f=>.ok f|_=>.error ()
def tJ(f:Ie)(args:List Ie):OpF:=fun _ call a h _=>R.b (FW (a.ev f)) fun x=>R.b (Gx x.fn) fun f=>call f (app x.first.toList (app (evl a args) x.cap.toList)) h
def ld:Builtin->Go.Call->OpF
 | .len,c=>match c.args.toList with|[x]=>tI c.argTypes.toList x|_=>bM
 | .append,c=>match c.args.toList with|[s,x]=>iI c.argTypes s x|_=>bM
 | .unsafeSliceData,c=>match c.args.toList with|[x]=>iJ x|_=>bM
 | .unsafeString,c=>match c.args.toList with|[x,y]=>fZ c.argTypes.toList x y|_=>bM
 |_,_=>bM
def AY:Callee->Go.Call->OpF
 | .builtin b,c=>ld b c
 | .value f,c=>tJ f c.args.toList
 | .invoke _ _,_=>fun _ _ _ _ _=>.error ()
def AZ:BinOp->Option (Int->Int->Bool)| .eql=>G5 fun x y=>decide (x=y)| .neq=>G5 fun x y=>Hj G6 G7 (decide (x=y))| .lss=>G5 fun x y=>decide (x<y)| .leq=>G5 fun x y=>decide (x<=y)| .gtr=>G5 fun x y=>decide (y<x)| .geq=>G5 fun x y=>decide (y<=x)|_=>G0
def eqT:BinOp->TypeId->Ie->Ie->OpF| .eql,t,x,y=>oE G7 t x y| .neq,t,x,y=>oE G6 t x y|_,_,_,_=>bM
def yN(op:BinOp)(f:Int->Int->Bool)(t:TypeId)(x y:Ie):OpF:=fun P c a h o=>Except.rec (motive:=fun _=>R VH) (fun _=>eqT op t x y P c a h o) (fun m=>R.b (kW (a.ev y)) fun n=>bp (oF m.k n.k) (ret (.bool (f m.n n.n)) h)) (kW (a.ev x))
def yO(op:BinOp)(t:TypeId)(x y:Ie):OpF:=match AZ op with|some f=>yN op f t x y|none=>bM
def rv(P:Ia)(g:Field):Option Nat:=match GH P g.type with|some (_+1)=>G5 g.offset|_=>G0
def GT(P:Ia)(t:TypeId)(f:Nat):Option Nat:=match P.underlying t with|some (.struct fs)=>(fs.toList[f]?).bind (rv P)|_=>G0
def ga(t:TypeId)(x:Ie)(f:Nat):OpF:=fun P _ a h _=>R.b (GG (GT P t f)) fun off=>R.b (kX (a.ev x)) fun p=>same h (AU off p)
def unT:UnOp->Ie->OpF| .not,x=>fun _ _ a h _=>R.b (iG (a.ev x)) fun b=>ret (.bool (Hj G6 G7 b)) h|_,_=>bM
def gW(x:Ie):OpF:=fun _ _ a h _=>R.b (kX (a.ev x)) fun p=>ret (.pointer (G5 p)) h
def opT(o:Op):OpF:=Op.rec (motive:=fun _=>OpF)
 AP AP tE AQ AT oA fq fL tF oB (fun _=>bM) (fun _=>bM) gW (fun op t x y _=>yO op t x y) (fun op _ x=>unT op x) kZ
 (fun _ _=>bM) (fun _ _=>bM) gV (fun _ r=>Iv (motive:=fun _=>OpF) tG (fun _=>bM) r) (fun _ _=>bM) fY rt ga oD iH (fun _ _ _=>bM) lc fL
 (fun _ _ _=>bM) (fun _ _ _ _=>bM) oG tH (fun _=>bM) (fun _ _ _ _=>bM) i9 (fun c=>AY c.callee c) (fun _=>bM) (fun _=>bM) (fun _=>bM) (fun _ _=>bM) (fun _ _ _=>bM) (fun _ _=>bM) o
def isB(w:Bool)(v:Value):R Bool:=Value.rec (motive_1:=fun _=>R Bool) (motive_2:=fun _=>Unit) (motive_3:=fun _=>Unit) (fun b=>.ok (b==w)) (fun _ _=>.ok G7) (fun _ _=>.ok G7) (fun _ _ _=>.ok G7) (fun _=>.ok G7) (fun _=>.ok G7) (fun _ _ _=>.ok G7) (fun _=>.ok G7) (fun _=>.error ()) (fun _ _ _ _ _=>.ok G7) (.ok G7) (fun _ _ _=>.ok G7) (.ok G7) (fun _ _=>.ok G7) (fun _ _=>.ok G7) (fun _ _=>()) () (fun _ _ _ _=>()) v
def evO(d:Option Tmp)(a:A):Value:=Iv (motive:=fun _=>Value) undef (fun d=>a.get undef d) d
def cE(g:Option (Nat×Bool))(all:Array Oper)(a:A):R Bool:=Iv (motive:=fun _=>Array Oper->A->R Bool) (fun _ _=>.ok G6) (fun p all a=>isB p.2 (evO ((all.toList[p.1]?).bind (·.dst)) a)) g all a
inductive AH where
 |mk (a:A) (h:H)
def ah(x:R AH)(f:A->H->R γ):R γ:=Except.rec (motive:=fun _=>R γ) (fun e=>.error e) (fun p=>AH.rec (motive:=fun _=>R γ) f p) x
def A0(P:Ia)(call:bU)(n:Nat)(all:Array Oper)(l:List Oper):A->H->R AH:=
 Iy (motive:=fun _=>A->H->R AH) (fun a h=>.ok (.mk a h)) (fun o _ ih a h=>R.b (cE o.guard all a) fun c=>Hj (ih (iM o.dst n a undef) h) (vh (opT o.op P call a h o) fun v h=>ih (iM o.dst n a v) h) c) l
end
end Go.Ev
