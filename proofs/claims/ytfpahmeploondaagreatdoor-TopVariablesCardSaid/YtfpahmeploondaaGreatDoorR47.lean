/- Walks and plain facts for the law on type variables, for all values and types that the heap holds (texts Fg Fh Fk Fl Fm Ga). -/
import Derived.Lib.Bytealg
import Derived.Test.YtfpahmeploondaaGreatDoorProg
import Derived.Test.YtfpahmeploondaaGreatDoorChecked
import Derived.WalkKit
import Derived.WalkLawsBesides
import Derived.WalkSpells
import Derived.Lib.Hide
import Derived.Lib.FrozenHead
import Derived.Lib.UnsafeStr
import Derived.Lib.Builder
import Derived.Defers
import Derived.Recover
import Derived.Test.YtfpahmeploondaaGreatDoorR03
import Derived.Test.YtfpahmeploondaaGreatDoorR45
import Derived.Test.YtfpahmeploondaaGreatDoorR46
set_option linter.unusedVariables false
set_option linter.unusedSimpArgs false
set_option maxHeartbeats 64000000
open Option renaming none -> G0, some -> G5
open Bool renaming true -> G6, false -> G7
open List renaming length_eq_zero_iff -> Jy
open Go.Result renaming andThen -> IG
open Go.Sem renaming run_bind -> It
open Go.World renaming cell? -> Ic
open Nat renaming beq_eq -> I1, beq -> Ib
open Bool renaming rec -> Hj
open Go renaming undef -> If
namespace Go.Ev
set_option linter.unusedVariables false
noncomputable section
def BY(h:H)(i:Nat)(r:Row):R VH:=match r.vs with
 |[.pointer G0,v]=>bp (AE v) (Hj (ret (.tuple #[]) (h.put i (.cells [.pointer (G5 ⟨i,0,G0⟩),v] r.e r.es G7))) (.error ()) r.fz)
 |[.pointer (G5 ⟨j,0,G0⟩),_]=>bp (Ib j i) (ret (.tuple #[]) h)
 |_=>.error ()
def oX(h:H)(l:List Value):R VH:=match l with
 |[.pointer (G5 ⟨i,0,G0⟩)]=>R.b (h.row i) fun r=>bp (Ib r.e 185) (bp (Ib r.es 0) (BY h i r))
 |_=>.error ()
def me(h:H)(l:List Value):R VH:=match l with
 |[.string s,.int .u8 c]=>ret (.int .i64 (Lib.indexByte s.data.toList c.toNat.toUInt8)) h
 |_=>.error ()
def zu:Orc:=fun _ f args h=>Hj (Hj G0 (G5 (me h args)) (Ib f 158)) (G5 (oX h args)) (Ib f 153)
end
end Go.Ev
namespace Go.Ev
set_option linter.unusedVariables false
noncomputable section
open Go.Proofs
def jh(c:Code):Code:=match c with| .seq _ y=>y|c=>c
def BZ(c:Code):Code:=match c with| .seq x _=>x|c=>c
def Ft(k:ul)(n:Nat):Code->A->H->(Code->A->H->R VH)->R VH:=Nat.rec (motive:=fun _=>Code->A->H->(Code->A->H->R VH)->R VH) (fun c a h f=>f c a h) (fun _ ih c a h f=>rx (k (BZ c) a h) fun x a h=>X.rec (motive:=fun _=>R VH) (ih (jh c) a h f) (fun _=>.error ()) (.error ()) x) n
def oY:Code:=Option.rec (motive:=fun _=>Code) .skip (fun c=>c) Tryz.f22.body
def tail22:Code:=jh (jh (jh (jh (jh oY))))
def sb(call:bU)(big:Nat)(args:List Value)(h:H):R VH:=
 bp (Nat.ble (len args) 23) (Ft (g9 Tryz.prog call 23 big) 4 oY (qq args 0 .nil) h fun _ a h=>
  rx (g9 Tryz.prog call 23 big tail22 (iM (G5 19) 23 a (.func (.func 44) #[] #[a.get undef 4])) h) (BI Tryz.prog Tryz.f22))
def ji(big n:Nat):Orc:=fun P f args h=>Hj (zu P f args h) (G5 (sb (dN Tryz.prog zu big n) big args h)) (Ib f 22)
end
end Go.Ev
namespace Go.Proofs.YtfpahmeploondaaGreatDoor
open Go.RowKit
set_option maxRecDepth 100000
theorem oZ(b:Nat)(w:World)(h0:w.cell? ⟨b,0,G0⟩=G5 (.pointer (G5 ⟨b,0,G0⟩))):
 Calls Tryz.prog 153 #[.pointer (G5 ⟨b,0,G0⟩)] w fun e w'=>e=.returned (.tuple #[])/\w'=w:=by
 obtain⟨j,hj,_⟩:=Option.map_eq_some_iff.1 (show(Tryz.prog.info? 185).map (·.size)=G5 2 by kernel_rfl);go_enter Tryz.func153,Tryz.ntmps153;go_wp2;rw[Lib.run_neq_ptr_same w _ Tryz.underlying182 hj];go_wp2
 go_end0
 exact⟨rfl,rfl⟩
theorem mF(b:Nat)(w:World)(h0:w.cell? ⟨b,0,G0⟩=G5 (.pointer G0))(hsh:w.shape? b=G5 (185,2))(hfz:w.frozen? ⟨b,0,G0⟩=G7):
 Calls Tryz.prog 153 #[.pointer (G5 ⟨b,0,G0⟩)] w fun e w'=>e=.returned (.tuple #[])/\w'=w.setCell ⟨b,0,G0⟩ (.pointer (G5 ⟨b,0,G0⟩)):=by
 obtain⟨j,hj,hjs⟩:=Option.map_eq_some_iff.1 (show(Tryz.prog.info? 185).map (·.size)=G5 2 by kernel_rfl);go_enter Tryz.func153,Tryz.ntmps153;go_wp2;rw[Lib.run_to_unsafe w ⟨b,0,G0⟩ Tryz.underlying182 Tryz.underlying241 hj (by rw[hjs];decide) hsh (Nat.zero_lt_succ 1)];simp only[IG];rw[Oper.upon_value];go_wp2;rw[run_callFunc_extern Tryz.func178 (by kernel_rfl) (by kernel_rfl) (by kernel_rfl) (e:=Extern.AbiNoEscape.same) (by kernel_rfl)];rw[Lib.run_noEscape];simp only[IG];rw[Oper.upon_value];go_wp2;rw[Lib.run_from_unsafe w ⟨b,0,G0⟩ Tryz.underlying241 Tryz.underlying182 hj hsh (by kernel_rfl)];simp only[IG];rw[Oper.upon_value];go_wp2
 go_end0
 exact⟨rfl,rfl⟩
theorem zv(s:ByteArray)(c:Int)(w:World):(callFunc 158 #[.string s,.int .u8 c]).run Tryz.prog w=.ok (.value (.int .i64 (Lib.indexByte s.data.toList c.toNat.toUInt8))) w:=by
 rw[run_callFunc_extern Tryz.func158 (by kernel_rfl) (by kernel_rfl) (by kernel_rfl) (e:=Extern.BytealgIndexByte.indexByte) (by kernel_rfl)];rw[Lib.run_indexByteString];rfl
end Go.Proofs.YtfpahmeploondaaGreatDoor
namespace Go.Ev
open Go.Proofs Go.Proofs.YtfpahmeploondaaGreatDoor
set_option maxRecDepth 100000
set_option linter.unusedSectionVars false
theorem fe:Tryz.prog.follows .mixedOrders=true:=by kernel_rfl
theorem B3(w:World)(args:Array Value):(callFunc 153 args).run Tryz.prog w=.ok (.enter 153 args) w:=by
 obtain⟨c,hc⟩:∃c,Tryz.f153.body=G5 c:=⟨_,rfl⟩
 have h1 : ¬ Tryz.f153.name = "runtime.NumGoroutine" := by decide
 simp[callFunc,program,Sem.run,IG,Tryz.func153,hc,h1,It]
theorem B4 {h g:H}{us vs:List Value}{u:Value}{p:Rho}{w:World}(e:oX h us=.ok (.mk u g))(H':HR p h w.heap)(V':VRs p vs us):OpR Tryz.prog p h w ((callFunc 153 vs.toArray).run Tryz.prog w) u g:=by
 unfold oX at e;split at e
 ·rename_i i;obtain⟨r,e1,e⟩:=R.b_ok e;obtain⟨e2,e⟩:=aT e;obtain⟨e3,e⟩:=aT e;rw[I1]at e2 e3;obtain⟨x,pre,l,post,f,m3,m4,m5,m6,m7,m8,m9⟩:=H'.row e1;have hpre:pre=[]:=Jy.1 (m5.trans m9);have hpost:post=[]:=Jy.1 (by rw[m7,e3];simp);subst hpre;subst hpost;simp only[List.nil_append,List.append_nil]at m4;cases V' with|cons v1 v2=>
  cases v2;cases v1 with
  | @ptr _ _ rb hp=>
  have hx:rb=x:=by rw[hp]at m3;injection m3
  subst hx;have hoff:rb.o+0=0:=by omega
  rw[hoff];refine .inr ⟨153,_,B3 w _,?_⟩;unfold BY at e;split at e
  ·rename_i v hv;obtain⟨e4,e⟩:=aT e;cases hf:r.fz with
   |true=>rw[hf]at e;cases e
   | false =>
     rw[hf]at e;obtain⟨rfl,rfl⟩:=bP (show ret (.tuple #[]) (h.put i (.cells [.pointer (G5 ⟨i,0,G0⟩),v] r.e r.es G7))=.ok (.mk u g)from e);have hff:=m8 hf;subst hff;rw[hv]at m6;cases m6 with| @cons a1 _ l1 _ k1 k2=>
     cases k2 with| @cons a2 _ l2 _ k2 k3=>
     cases k3;have ha1:=k1.same rfl;subst ha1;have hlt:=(Array.getElem?_eq_some_iff.1 m4).1;refine(mF rb.r w (by simp[Ic,m4]) (by simp[World.shape?,m4,e2]) (by simp[World.frozen?,m4])).mono ?_;rintro en w' ⟨rfl,rfl⟩;have hw:w.setCell ⟨rb.r,0,G0⟩ (.pointer (G5 ⟨rb.r,0,G0⟩))={w with heap:=w.heap.setIfInBounds rb.r (.cells #[.pointer (G5 ⟨rb.r,0,G0⟩),a2] r.e (0,0))}:=by
      unfold World.setCell;congr 1;apply Array.ext_getElem?;intro k;rw[Array.getElem?_modify];by_cases hk:rb.r=k
      ·subst hk;rw[if_pos rfl,m4];simp[hlt]
      ·rw[if_neg hk,Array.getElem?_setIfInBounds_ne hk]
     rw[hw];refine⟨p,_,rfl,Ext.set H' (gb e1) hp _,HR.put H' (gb e1) hp ⟨[],[.pointer (G5 ⟨rb.r,0,G0⟩),a2],[],(0,0),by simp,by rw[m9];rfl,.cons ?_ (.cons k2 .nil),by rw[e3];simp,fun _=>rfl,m9⟩,.tuple .nil⟩;have:=VR.ptr (p:=p) (off:=0) hp;rw[hoff]at this;exact this
  ·rename_i j v hv;obtain⟨e4,e⟩:=aT e;obtain⟨rfl,rfl⟩:=bP e;rw[I1]at e4;subst e4;rw[hv]at m6;cases m6 with| @cons a1 _ l1 _ k1 k2=>
   cases k1 with
   | @ptr _ _ rb2 hp2=>
   rw[hp]at hp2;cases hp2;refine(oZ rb.r w (by simp[Ic,m4,m9])).mono ?_;rintro en w' ⟨rfl,rfl⟩;exact⟨p,_,rfl,Ext.refl p _ _,H',.tuple .nil⟩
  ·cases e
 ·cases e
theorem B5 {h g:H}{us vs:List Value}{u:Value}{p:Rho}{w:World}(e:me h us=.ok (.mk u g))(H':HR p h w.heap)(V':VRs p vs us):OpR Tryz.prog p h w ((callFunc 158 vs.toArray).run Tryz.prog w) u g:=by
 unfold me at e;split at e
 ·rename_i s c;obtain⟨rfl,rfl⟩:=bP e;cases V' with|cons v1 v2=>
  cases v2 with|cons v2 v3=>
  cases v3;rw[v1.same rfl,v2.same rfl];exact .inl ⟨p,w,_,.inl (zv s c w),Ext.refl p _ _,H',.int _ _⟩
 ·cases e
theorem xF:qs Tryz.prog zu:=fun f us h u g e p w vs H' V'=>by
 have e:(Hj (Hj G0 (G5 (me h us)) (Ib f 158)) (G5 (oX h us)) (Ib f 153):Option (R VH))=G5 (.ok (.mk u g)):=e;cases h1:Ib f 153 with
 | true =>
   rw[h1]at e;have e:G5 (oX h us)=G5 (.ok (.mk u g)):=e;injection e with e'
   rw[I1]at h1;have h1:f=153:=h1;subst h1;exact B4 e' H' V'
 | false =>
   rw[h1]at e;have e:(Hj G0 (G5 (me h us)) (Ib f 158):Option (R VH))=G5 (.ok (.mk u g)):=e;cases h2:Ib f 158 with
   |false=>rw[h2]at e;cases e
   | true =>
     rw[h2]at e;have e:G5 (me h us)=G5 (.ok (.mk u g)):=e;injection e with e'
     rw[I1]at h2;have h2:f=158:=h2;subst h2;exact B5 e' H' V'
theorem vY(v:Value)(w:World):CallsD Tryz.prog 44 #[v] .returning w fun e u' w'=>e=.returned (.tuple #[])/\u'=.returning/\w'=w:=by
 refine callsD_of_wpS Tryz.func44 rfl fun c₀ cs hu=>?_
 apply wpS_seq;apply wpS_region;simp[wpOpsS,go_sem,recoverD,hu,Tryz.ntmps44,Exit.thenS];apply wpS_seq;apply wpS_region;simp[wpOpsS,go_sem,Exit.thenS];refine wpS_cond (t:=G7) (by simp[Act.eval,Array.replicate]) ?_;simp only[Bool.false_eq_true,if_false];refine wpS_of_wp (wp_skip ?_);cases c₀;simp_all[bodyPostS,results,Tryz.results44]
def Gm:Nat->Code->Prop
 |0,_=>True
 |m+1,c=>c=.seq (BZ c) (jh c)/\Gm m (jh c)
def xG:Nat->Code->Code
 |0,c=>c
 |m+1,c=>xG m (jh c)
theorem B6 {P:Program}{n:Nat}{k:ul}(K:BJ P n k){f:Code->A->H->R VH}{u:Value}{g:H}{Q:Exit->Act->World->Prop}:∀(m:Nat) (c:Code) (p:Rho) (a:Act) (b:A) (h:H) (w:World),Gm m c->Ft k m c b h f=.ok (.mk u g)->AS p a b n->HR p h w.heap->
 (∀b' h' q a' w',f (xG m c) b' h'=.ok (.mk u g)->Ext p h w q h' w'->HR q h' w'.heap->AS q a' b' n->a'.defers=a.defers->(xG m c).wp P Q a' w')->c.wp P Q a w
 |0,c,p,a,b,h,w,_,e,A',H',F=>F b h p a w e (Ext.refl p h w) H' A' rfl
 | m + 1, c, p, a, b, h, w, hs, e, A', H', F => by
   obtain⟨x,b1,h1,e1,e⟩:=qr (show rx (k (BZ c) b h) (fun x a h=>X.rec (motive:=fun _=>R VH) (Ft k m (jh c) a h f) (fun _=>.error ()) (.error ()) x)=.ok (.mk u g)from e);rw[hs.1];refine wp_seq (K.1 _ b h x b1 h1 e1 p a w _ A' H' fun q a1 w1 E1 H1 A1 D1=>?_);cases x with
   |normal=>exact B6 K m (jh c) q a1 b1 h1 w1 hs.2 e A1 H1 fun b' h' q' a' w' e' E2 H2 A2 D2=>F b' h' q' a' w' e' (E1.trans E2) H2 A2 (D2.trans D1)
   |exit id=>cases e
   |ret=>cases e
theorem DD(w:World)(args:Array Value):(callFunc 22 args).run Tryz.prog w=.ok (.enter 22 args) w:=by
 obtain⟨c,hc⟩:∃c,Tryz.f22.body=G5 c:=⟨_,rfl⟩
 have h1 : ¬ Tryz.f22.name = "runtime.NumGoroutine" := by decide
 simp[callFunc,program,Sem.run,IG,Tryz.func22,hc,h1,It]
theorem B8 {Q:Exit->Act->World->Prop}{a:Act}{w:World}(hs:a.tmps.size=23)
 (h:tail22.wp Tryz.prog Q {tmps:=a.tmps.setIfInBounds 19 (.func (.func 44) #[] #[a.tmps.getD 4 If]),defers:={target:=.fn (.func 44) #[a.tmps.getD 4 If],args:= #[]}::a.defers} w):(xG 4 oY).wp Tryz.prog Q a w:=by
 show(Code.seq _ tail22).wp Tryz.prog Q a w;refine wp_seq ?_;refine wp_region_lit ?_;have hmf:∀(fn:Fn) (first cap:Array Value) (w:World),(Instr.makeFunc fn first cap).run Tryz.prog w=.ok (.func fn first cap) w:=fun _ _ _ _=>rfl
 have h4:a.tmps[4]?.getD If=a.tmps.getD 4 If:=by simp
 unfold wpList;simp[Region.wanted,Oper.wp,execOp,hmf,wpList,LetsOut,Act.put,Act.eval,resolve,hs,Exit.then];refine .inl ?_;rw[Oper.upon_value];refine .inl ?_;have hg:(({tmps:=a.tmps,defers:=a.defers}:Act).put (G5 19) (Value.func (Fn.func 44) #[] #[a.tmps[4]])).tmps[19]?.getD If=Value.func (Fn.func 44) #[] #[a.tmps[4]]:=by simp[Act.put,hs]
 have h4':a.tmps.getD 4 If=a.tmps[4]:=by simp[Array.getD,hs]
 rw[h4']at h;dsimp only;rw[hg];simp only[Deferred.ofValue,Sem.run_pure,Result.andThen_ok,Oper.upon_defer];exact h
theorem zw {call:bU}(C:dY Tryz.prog call){big:Nat}{us vs:List Value}{h g:H}{u:Value}{p:Rho}{w:World}(e:sb call big us h=.ok (.mk u g))(H':HR p h w.heap)(V':VRs p vs us):OpR Tryz.prog p h w ((callFunc 22 vs.toArray).run Tryz.prog w) u g:=by
 obtain⟨e1,e⟩:=aT e;have K:=oV (n:=23) fe C big;refine .inr ⟨22,_,DD w _,calls_of_wp_defers Tryz.func22 (show Tryz.f22.body=G5 oY from rfl) ?_⟩;have hl:us.length<=23:=by have:=dK e1;rw[gc]at this;exact this
 refine B6 K 4 oY p _ _ h w ⟨rfl,rfl,rfl,rfl,trivial⟩ e (xC V' hl) H' fun b1 h1 q a1 w1 e2 E1 H1 A1 D1=>?_
 obtain⟨x,b2,h2,e3,e4⟩:=qr e2;refine B8 A1.size ?_;have AS1:=A1.put (VR.func (.func 44) (a:=[]) (b:=[]) .nil (VRs.cons (A1.ar.tmp 4) .nil)) (G5 19);refine K.1 tail22 _ h1 x b2 h2 e3 q _ w1 _ ⟨⟨AS1.ar.tmp⟩,AS1.size⟩ H1 fun r a3 w3 E2 H2 A3 D3=>?_
 obtain⟨rfl,hx,v,k1,k2⟩:=oW e4 A3.ar H2;have key:Leaves Tryz.prog Tryz.f22 a3.tmps (FY p h w u g) a3.defers .returning w3:=by
  rw[D3,D1];refine leaves_cons (f:=44) (args:= #[a1.tmps.getD 4 If]) (by simp) (by simp[go_sem]) ?_;refine(vY _ _).mono ?_;rintro en u' w4 ⟨rfl,rfl,rfl⟩;exact⟨v,k2,r,v,rfl,E1.trans E2,H2,k1⟩
 cases x with
 |normal=>exact key
 |ret=>exact key
 |exit id=>cases hx
theorem B9:uq Tryz.prog:=by
 intro f fn hf;have h : Tryz.prog.funcs.toList.all (fun fn => !(fn.name == "runtime.NumGoroutine")) = true := by kernel_rfl
 rw[List.all_eq_true]at h;have:=h fn (Array.mem_toList_iff.2 (Array.mem_of_getElem? hf));simpa using this
theorem xH(big n:Nat):qs Tryz.prog (ji big n):=fun f us h u g e p w vs H' V'=>by
 have e:(Hj (zu Tryz.prog f us h) (G5 (sb (dN Tryz.prog zu big n) big us h)) (Ib f 22):Option (R VH))=G5 (.ok (.mk u g)):=e;cases h1:Ib f 22 with
 | true =>
   rw[h1]at e;have e:G5 (sb (dN Tryz.prog zu big n) big us h)=G5 (.ok (.mk u g)):=e;injection e with e'
   rw[I1]at h1;have h1:f=22:=h1;subst h1;exact zw (ll fe B9 xF n) e' H' V'
 | false =>
   rw[h1]at e;exact xF f us h u g e p w vs H' V'
open Go.Proofs
set_option maxRecDepth 1000000
noncomputable def zi(n:Int):Value:=.int .i64 n
noncomputable def zn:Value:=.slice G0 0 0
noncomputable def ze:Value:=.string ⟨#[]⟩
noncomputable def zp(a n:Nat):Value:=.slice (G5 ⟨a,0,G5 0⟩) n n
noncomputable def zq(a n:Nat):Value:=.slice (G5 ⟨a,0,G0⟩) n n
noncomputable def nf(k lo hi:Int)(t a b:Value)(r0 r1:Int)(l:List Value):List Value:=zi k::zi lo::zi hi::t::a::b::zi r0::zi r1::l
noncomputable def nd(k:Int)(t a:Value)(l:List Value):List Value:=nf k 0 0 t a zn 0 0 l
noncomputable def nk(k:Int)(a:Value)(l:List Value):List Value:=nd k ze a l
noncomputable def nl(k:Int)(l:List Value):List Value:=nk k zn l
noncomputable def mes0:List ME:=[]
noncomputable def me0:ME:=⟨25,[.agg #[.slice (G5 ⟨183,0,G5 0⟩) 7 7,.int .i64 6]],[⟨107,⟨[zi 0,zi 1],3,1,G7⟩⟩,⟨148,⟨[zi 3,zi 4],3,0,G7⟩⟩,⟨155,⟨[zi 2,zi 5],3,1,G7⟩⟩,⟨183,⟨nd 6 (.string ⟨#[111,107]⟩) zn<|nf 3 (-9223372036854775808) 9223372036854775807 ze zn zn 0 0<|nk 10 (zp 107 2)<|nl 7<|nl 9<|nk 12 (zq 148 2)<|nk 16 (zp 155 2)<|[],61,8,G7⟩⟩],185,.int .i64 0,[]⟩
noncomputable def mes1:List ME:=me0::mes0
noncomputable def me1:ME:=⟨25,[.agg #[.slice (G5 ⟨216,0,G5 0⟩) 1 1,.int .i64 0]],[⟨216,⟨nl 2<|[],61,8,G7⟩⟩],218,.int .i64 0,[]⟩
noncomputable def mes2:List ME:=me1::mes1
noncomputable def me2:ME:=⟨25,[.agg #[.slice (G5 ⟨279,0,G5 0⟩) 8 8,.int .i64 6]],[⟨245,⟨[zi 0,zi 1],3,1,G7⟩⟩,⟨262,⟨[zi 3,zi 4],3,1,G7⟩⟩,⟨269,⟨[zi 2,zi 5],3,1,G7⟩⟩,⟨279,⟨nd 6 (.string ⟨#[111,107]⟩) zn<|nf 3 (-9223372036854775808) 9223372036854775807 ze zn zn 0 0<|nk 10 (zp 245 2)<|nl 7<|nl 9<|nk 12 (zp 262 2)<|nk 16 (zp 269 2)<|nl 2<|[],61,8,G7⟩⟩],289,.int .i64 0,[]⟩
noncomputable def mes3:List ME:=me2::mes2
noncomputable def me3:ME:=⟨122,[.agg #[.slice (G5 ⟨279,0,G5 0⟩) 8 8,.int .i64 6],.agg #[.slice (G5 ⟨281,0,G0⟩) 1 1,.slice (G5 ⟨282,0,G0⟩) 1 1,.bool G7]],[⟨245,⟨[zi 0,zi 1],3,1,G7⟩⟩,⟨262,⟨[zi 3,zi 4],3,1,G7⟩⟩,⟨269,⟨[zi 2,zi 5],3,1,G7⟩⟩,⟨279,⟨nd 6 (.string ⟨#[111,107]⟩) zn<|nf 3 (-9223372036854775808) 9223372036854775807 ze zn zn 0 0<|nk 10 (zp 245 2)<|nl 7<|nl 9<|nk 12 (zp 262 2)<|nk 16 (zp 269 2)<|nl 2<|[],61,8,G7⟩⟩,⟨281,⟨[zi 6],3,0,G7⟩⟩,⟨282,⟨[zi 7],3,0,G7⟩⟩],312,.slice G0 0 0,[]⟩
noncomputable def mes4:List ME:=me3::mes3
noncomputable def me4:ME:=⟨11,[.agg #[.slice (G5 ⟨183,0,G5 0⟩) 7 7,.int .i64 6],.agg #[.slice (G5 ⟨216,0,G5 0⟩) 1 1,.int .i64 0]],[⟨107,⟨[zi 0,zi 1],3,1,G7⟩⟩,⟨148,⟨[zi 3,zi 4],3,0,G7⟩⟩,⟨155,⟨[zi 2,zi 5],3,1,G7⟩⟩,⟨183,⟨nd 6 (.string ⟨#[111,107]⟩) zn<|nf 3 (-9223372036854775808) 9223372036854775807 ze zn zn 0 0<|nk 10 (zp 107 2)<|nl 7<|nl 9<|nk 12 (zq 148 2)<|nk 16 (zp 155 2)<|[],61,8,G7⟩⟩,⟨216,⟨nl 2<|[],61,8,G7⟩⟩],219,.bool G6,[]⟩
noncomputable def mes5:List ME:=me4::mes4
noncomputable def me5:ME:=⟨25,[.agg #[.slice (G5 ⟨279,0,G5 0⟩) 8 8,.int .i64 0]],[⟨253,⟨[zi 1,zi 2],3,1,G7⟩⟩,⟨270,⟨[zi 4,zi 5],3,1,G7⟩⟩,⟨277,⟨[zi 3,zi 6],3,1,G7⟩⟩,⟨279,⟨nl 2<|nd 6 (.string ⟨#[111,107]⟩) zn<|nf 3 (-9223372036854775808) 9223372036854775807 ze zn zn 0 0<|nk 10 (zp 253 2)<|nl 7<|nl 9<|nk 12 (zp 270 2)<|nk 16 (zp 277 2)<|[],61,8,G7⟩⟩],289,.int .i64 0,[]⟩
noncomputable def mes6:List ME:=me5::mes5
noncomputable def me6:ME:=⟨122,[.agg #[.slice (G5 ⟨279,0,G5 0⟩) 8 8,.int .i64 0],.agg #[.slice (G5 ⟨281,0,G0⟩) 1 1,.slice (G5 ⟨282,0,G0⟩) 1 1,.bool G7]],[⟨253,⟨[zi 1,zi 2],3,1,G7⟩⟩,⟨270,⟨[zi 4,zi 5],3,1,G7⟩⟩,⟨277,⟨[zi 3,zi 6],3,1,G7⟩⟩,⟨279,⟨nl 2<|nd 6 (.string ⟨#[111,107]⟩) zn<|nf 3 (-9223372036854775808) 9223372036854775807 ze zn zn 0 0<|nk 10 (zp 253 2)<|nl 7<|nl 9<|nk 12 (zp 270 2)<|nk 16 (zp 277 2)<|[],61,8,G7⟩⟩,⟨281,⟨[zi 0],3,0,G7⟩⟩,⟨282,⟨[zi 7],3,0,G7⟩⟩],312,.slice (G5 ⟨323,0,G5 0⟩) 19 19,[⟨[zi 4],3,1,G7⟩,⟨[zn,zq 312 1,.bool G7,zn,zn,.bool G6],84,3,G7⟩,⟨[zi 5],3,1,G7⟩,⟨[zn,zn,.bool G7,zn,zq 314 1,.bool G6],84,3,G7⟩,⟨[zn,zn,.bool G7],84,3,G7⟩,⟨[zi 1],3,1,G7⟩,⟨[zn,zq 317 1,.bool G7,zn,zn,.bool G7],84,3,G7⟩,⟨[zi 2],3,1,G7⟩,⟨[zn,zn,.bool G7,zn,zq 319 1,.bool G7],84,3,G7⟩,⟨[zn,zn,.bool G7,zn,zn,.bool G7,zn,zn,.bool G7],84,3,G7⟩,⟨[zn,zn,.bool G7,zn,zn,.bool G7,zn,zn,.bool G7,zn,zn,.bool G7],84,3,G7⟩,⟨[zi 1,zi 0,ze,zn,zn,zn,zn,zn,zn,zn,zn,zi 2,zi 0,ze,zn,zn,zn,zn,zn,zn,zn,zn,zi 3,zi 0,.string ⟨#[97]⟩,zn,zn,zn,zn,zn,zn,zn,zn,zi 4,zi 0,ze,zn,zn,zn,zn,zn,zn,zn,zn,zi 5,zi 0,ze,zn,zn,zn,zn,zn,zn,zn,zn,zi 7,zi 0,ze,zn,zn,zn,zn,zn,zn,zp 313 2,zn,zi 7,zi 0,ze,zn,zn,zn,zn,zn,zn,zp 315 2,zn,zi 8,zi 0,ze,zn,zn,zn,zn,zn,zn,zn,zn,zi 6,zi 0,ze,zn,zn,zn,zn,zn,zn,zn,zn,zi 9,zi 0,ze,zn,zn,zn,zn,zn,zn,zn,zn,zi 6,zi 0,ze,zn,zn,zn,zn,zn,zn,zp 316 1,zn,zi 9,zi 1,ze,zn,zn,zn,zn,zn,zn,zn,zn,zi 6,zi 0,ze,zn,zn,zn,zn,zn,zn,zp 318 2,zn,zi 6,zi 0,ze,zn,zn,zn,zn,zn,zn,zp 320 2,zn,zi 9,zi 2,ze,zn,zn,zn,zn,zn,zn,zn,zn,zi 6,zi 0,ze,zn,zn,zn,zn,zn,zn,zp 321 3,zn,zi 9,zi 3,ze,zn,zn,zn,zn,zn,zn,zn,zn,zi 6,zi 0,ze,zn,zn,zn,zn,zn,zn,zp 322 4,zn,zi 9,zi 4,ze,zn,zn,zn,zn,zn,zn,zn,zn],178,11,G7⟩]⟩
noncomputable def mes7:List ME:=me6::mes6
noncomputable def me7:ME:=⟨122,[.agg #[.slice (G5 ⟨279,0,G5 0⟩) 8 8,.int .i64 0],.agg #[.slice G0 0 0,.slice G0 0 0,.bool G7]],[⟨253,⟨[zi 1,zi 2],3,1,G7⟩⟩,⟨270,⟨[zi 4,zi 5],3,1,G7⟩⟩,⟨277,⟨[zi 3,zi 6],3,1,G7⟩⟩,⟨279,⟨nl 2<|nd 6 (.string ⟨#[111,107]⟩) zn<|nf 3 (-9223372036854775808) 9223372036854775807 ze zn zn 0 0<|nk 10 (zp 253 2)<|nl 7<|nl 9<|nk 12 (zp 270 2)<|nk 16 (zp 277 2)<|[],61,8,G7⟩⟩],390,.slice (G5 ⟨395,0,G5 0⟩) 17 17,[⟨[zn,zn,.bool G7,zn,zn,.bool G6],84,3,G7⟩,⟨[zn,zn,.bool G7],84,3,G7⟩,⟨[zn,zn,.bool G7,zn,zn,.bool G7],84,3,G7⟩,⟨[zn,zn,.bool G7,zn,zn,.bool G7,zn,zn,.bool G7],84,3,G7⟩,⟨[zn,zn,.bool G7,zn,zn,.bool G7,zn,zn,.bool G7,zn,zn,.bool G7],84,3,G7⟩,⟨[zi 1,zi 0,ze,zn,zn,zn,zn,zn,zn,zn,zn,zi 2,zi 0,ze,zn,zn,zn,zn,zn,zn,zn,zn,zi 3,zi 0,.string ⟨#[97]⟩,zn,zn,zn,zn,zn,zn,zn,zn,zi 4,zi 0,ze,zn,zn,zn,zn,zn,zn,zn,zn,zi 5,zi 0,ze,zn,zn,zn,zn,zn,zn,zn,zn,zi 7,zi 0,ze,zn,zn,zn,zn,zn,zn,zp 390 2,zn,zi 8,zi 0,ze,zn,zn,zn,zn,zn,zn,zn,zn,zi 6,zi 0,ze,zn,zn,zn,zn,zn,zn,zn,zn,zi 9,zi 0,ze,zn,zn,zn,zn,zn,zn,zn,zn,zi 6,zi 0,ze,zn,zn,zn,zn,zn,zn,zp 391 1,zn,zi 9,zi 1,ze,zn,zn,zn,zn,zn,zn,zn,zn,zi 6,zi 0,ze,zn,zn,zn,zn,zn,zn,zp 392 2,zn,zi 9,zi 2,ze,zn,zn,zn,zn,zn,zn,zn,zn,zi 6,zi 0,ze,zn,zn,zn,zn,zn,zn,zp 393 3,zn,zi 9,zi 3,ze,zn,zn,zn,zn,zn,zn,zn,zn,zi 6,zi 0,ze,zn,zn,zn,zn,zn,zn,zp 394 4,zn,zi 9,zi 4,ze,zn,zn,zn,zn,zn,zn,zn,zn],178,11,G7⟩]⟩
noncomputable def mes8:List ME:=me7::mes7
noncomputable def me8:ME:=⟨122,[.agg #[.slice (G5 ⟨279,0,G5 0⟩) 8 8,.int .i64 0],.agg #[.slice G0 0 0,.slice G0 0 0,.bool G6]],[⟨253,⟨[zi 1,zi 2],3,1,G7⟩⟩,⟨270,⟨[zi 4,zi 5],3,1,G7⟩⟩,⟨277,⟨[zi 3,zi 6],3,1,G7⟩⟩,⟨279,⟨nl 2<|nd 6 (.string ⟨#[111,107]⟩) zn<|nf 3 (-9223372036854775808) 9223372036854775807 ze zn zn 0 0<|nk 10 (zp 253 2)<|nl 7<|nl 9<|nk 12 (zp 270 2)<|nk 16 (zp 277 2)<|[],61,8,G7⟩⟩],504,.slice (G5 ⟨505,0,G5 0⟩) 2 2,[⟨[zn,zn,.bool G7,zn,zn,.bool G6],84,3,G7⟩,⟨[zi 5,zi 0,ze,zn,zn,zn,zn,zn,zn,zn,zn,zi 7,zi 0,ze,zn,zn,zn,zn,zn,zn,zp 504 2,zn],178,11,G7⟩]⟩
noncomputable def mes9:List ME:=me8::mes8
noncomputable def me9:ME:=⟨122,[.agg #[.slice (G5 ⟨279,0,G5 0⟩) 8 8,.int .i64 0],.agg #[.slice G0 0 0,.slice (G5 ⟨319,0,G0⟩) 1 1,.bool G7]],[⟨253,⟨[zi 1,zi 2],3,1,G7⟩⟩,⟨270,⟨[zi 4,zi 5],3,1,G7⟩⟩,⟨277,⟨[zi 3,zi 6],3,1,G7⟩⟩,⟨279,⟨nl 2<|nd 6 (.string ⟨#[111,107]⟩) zn<|nf 3 (-9223372036854775808) 9223372036854775807 ze zn zn 0 0<|nk 10 (zp 253 2)<|nl 7<|nl 9<|nk 12 (zp 270 2)<|nk 16 (zp 277 2)<|[],61,8,G7⟩⟩,⟨319,⟨[zi 2],3,1,G7⟩⟩],569,.slice (G5 ⟨574,0,G5 0⟩) 16 16,[⟨[zn,zn,.bool G7,zn,zn,.bool G6],84,3,G7⟩,⟨[zn,zn,.bool G7],84,3,G7⟩,⟨[zn,zn,.bool G7,zn,zn,.bool G7],84,3,G7⟩,⟨[zn,zn,.bool G7,zn,zn,.bool G7,zn,zn,.bool G7],84,3,G7⟩,⟨[zn,zn,.bool G7,zn,zn,.bool G7,zn,zn,.bool G7,zn,zn,.bool G7],84,3,G7⟩,⟨[zi 2,zi 0,ze,zn,zn,zn,zn,zn,zn,zn,zn,zi 3,zi 0,.string ⟨#[97]⟩,zn,zn,zn,zn,zn,zn,zn,zn,zi 4,zi 0,ze,zn,zn,zn,zn,zn,zn,zn,zn,zi 5,zi 0,ze,zn,zn,zn,zn,zn,zn,zn,zn,zi 7,zi 0,ze,zn,zn,zn,zn,zn,zn,zp 569 2,zn,zi 8,zi 0,ze,zn,zn,zn,zn,zn,zn,zn,zn,zi 6,zi 0,ze,zn,zn,zn,zn,zn,zn,zn,zn,zi 9,zi 0,ze,zn,zn,zn,zn,zn,zn,zn,zn,zi 6,zi 0,ze,zn,zn,zn,zn,zn,zn,zp 570 1,zn,zi 9,zi 1,ze,zn,zn,zn,zn,zn,zn,zn,zn,zi 6,zi 0,ze,zn,zn,zn,zn,zn,zn,zp 571 2,zn,zi 9,zi 2,ze,zn,zn,zn,zn,zn,zn,zn,zn,zi 6,zi 0,ze,zn,zn,zn,zn,zn,zn,zp 572 3,zn,zi 9,zi 3,ze,zn,zn,zn,zn,zn,zn,zn,zn,zi 6,zi 0,ze,zn,zn,zn,zn,zn,zn,zp 573 4,zn,zi 9,zi 4,ze,zn,zn,zn,zn,zn,zn,zn,zn],178,11,G7⟩]⟩
noncomputable def mes10:List ME:=me9::mes9
noncomputable def me10:ME:=⟨122,[.agg #[.slice (G5 ⟨279,0,G5 0⟩) 8 8,.int .i64 0],.agg #[.slice G0 0 0,.slice (G5 ⟨317,0,G0⟩) 1 1,.bool G7]],[⟨253,⟨[zi 1,zi 2],3,1,G7⟩⟩,⟨270,⟨[zi 4,zi 5],3,1,G7⟩⟩,⟨277,⟨[zi 3,zi 6],3,1,G7⟩⟩,⟨279,⟨nl 2<|nd 6 (.string ⟨#[111,107]⟩) zn<|nf 3 (-9223372036854775808) 9223372036854775807 ze zn zn 0 0<|nk 10 (zp 253 2)<|nl 7<|nl 9<|nk 12 (zp 270 2)<|nk 16 (zp 277 2)<|[],61,8,G7⟩⟩,⟨317,⟨[zi 1],3,1,G7⟩⟩],699,.slice (G5 ⟨704,0,G5 0⟩) 17 17,[⟨[zn,zn,.bool G7,zn,zn,.bool G6],84,3,G7⟩,⟨[zn,zn,.bool G7],84,3,G7⟩,⟨[zn,zn,.bool G7,zn,zn,.bool G7],84,3,G7⟩,⟨[zn,zn,.bool G7,zn,zn,.bool G7,zn,zn,.bool G7],84,3,G7⟩,⟨[zn,zn,.bool G7,zn,zn,.bool G7,zn,zn,.bool G7,zn,zn,.bool G7],84,3,G7⟩,⟨[zi 1,zi 0,ze,zn,zn,zn,zn,zn,zn,zn,zn,zi 2,zi 0,ze,zn,zn,zn,zn,zn,zn,zn,zn,zi 3,zi 0,.string ⟨#[97]⟩,zn,zn,zn,zn,zn,zn,zn,zn,zi 4,zi 0,ze,zn,zn,zn,zn,zn,zn,zn,zn,zi 5,zi 0,ze,zn,zn,zn,zn,zn,zn,zn,zn,zi 7,zi 0,ze,zn,zn,zn,zn,zn,zn,zp 699 2,zn,zi 8,zi 0,ze,zn,zn,zn,zn,zn,zn,zn,zn,zi 6,zi 0,ze,zn,zn,zn,zn,zn,zn,zn,zn,zi 9,zi 0,ze,zn,zn,zn,zn,zn,zn,zn,zn,zi 6,zi 0,ze,zn,zn,zn,zn,zn,zn,zp 700 1,zn,zi 9,zi 1,ze,zn,zn,zn,zn,zn,zn,zn,zn,zi 6,zi 0,ze,zn,zn,zn,zn,zn,zn,zp 701 2,zn,zi 9,zi 2,ze,zn,zn,zn,zn,zn,zn,zn,zn,zi 6,zi 0,ze,zn,zn,zn,zn,zn,zn,zp 702 3,zn,zi 9,zi 3,ze,zn,zn,zn,zn,zn,zn,zn,zn,zi 6,zi 0,ze,zn,zn,zn,zn,zn,zn,zp 703 4,zn,zi 9,zi 4,ze,zn,zn,zn,zn,zn,zn,zn,zn],178,11,G7⟩]⟩
noncomputable def mes11:List ME:=me10::mes10
noncomputable def me11:ME:=⟨122,[.agg #[.slice (G5 ⟨279,0,G5 0⟩) 8 8,.int .i64 0],.agg #[.slice G0 0 0,.slice (G5 ⟨314,0,G0⟩) 1 1,.bool G6]],[⟨253,⟨[zi 1,zi 2],3,1,G7⟩⟩,⟨270,⟨[zi 4,zi 5],3,1,G7⟩⟩,⟨277,⟨[zi 3,zi 6],3,1,G7⟩⟩,⟨279,⟨nl 2<|nd 6 (.string ⟨#[111,107]⟩) zn<|nf 3 (-9223372036854775808) 9223372036854775807 ze zn zn 0 0<|nk 10 (zp 253 2)<|nl 7<|nl 9<|nk 12 (zp 270 2)<|nk 16 (zp 277 2)<|[],61,8,G7⟩⟩,⟨314,⟨[zi 5],3,1,G7⟩⟩],828,.slice (G5 ⟨829,0,G5 0⟩) 1 1,[⟨[zn,zn,.bool G7,zn,zn,.bool G6],84,3,G7⟩,⟨[zi 7,zi 0,ze,zn,zn,zn,zn,zn,zn,zp 828 2,zn],178,11,G7⟩]⟩
noncomputable def mes12:List ME:=me11::mes11
noncomputable def me12:ME:=⟨122,[.agg #[.slice (G5 ⟨279,0,G5 0⟩) 8 8,.int .i64 0],.agg #[.slice G0 0 0,.slice (G5 ⟨312,0,G0⟩) 1 1,.bool G7]],[⟨253,⟨[zi 1,zi 2],3,1,G7⟩⟩,⟨270,⟨[zi 4,zi 5],3,1,G7⟩⟩,⟨277,⟨[zi 3,zi 6],3,1,G7⟩⟩,⟨279,⟨nl 2<|nd 6 (.string ⟨#[111,107]⟩) zn<|nf 3 (-9223372036854775808) 9223372036854775807 ze zn zn 0 0<|nk 10 (zp 253 2)<|nl 7<|nl 9<|nk 12 (zp 270 2)<|nk 16 (zp 277 2)<|[],61,8,G7⟩⟩,⟨312,⟨[zi 4],3,1,G7⟩⟩],868,.slice (G5 ⟨873,0,G5 0⟩) 16 16,[⟨[zn,zn,.bool G7,zn,zn,.bool G6],84,3,G7⟩,⟨[zn,zn,.bool G7],84,3,G7⟩,⟨[zn,zn,.bool G7,zn,zn,.bool G7],84,3,G7⟩,⟨[zn,zn,.bool G7,zn,zn,.bool G7,zn,zn,.bool G7],84,3,G7⟩,⟨[zn,zn,.bool G7,zn,zn,.bool G7,zn,zn,.bool G7,zn,zn,.bool G7],84,3,G7⟩,⟨[zi 1,zi 0,ze,zn,zn,zn,zn,zn,zn,zn,zn,zi 2,zi 0,ze,zn,zn,zn,zn,zn,zn,zn,zn,zi 4,zi 0,ze,zn,zn,zn,zn,zn,zn,zn,zn,zi 5,zi 0,ze,zn,zn,zn,zn,zn,zn,zn,zn,zi 7,zi 0,ze,zn,zn,zn,zn,zn,zn,zp 868 2,zn,zi 8,zi 0,ze,zn,zn,zn,zn,zn,zn,zn,zn,zi 6,zi 0,ze,zn,zn,zn,zn,zn,zn,zn,zn,zi 9,zi 0,ze,zn,zn,zn,zn,zn,zn,zn,zn,zi 6,zi 0,ze,zn,zn,zn,zn,zn,zn,zp 869 1,zn,zi 9,zi 1,ze,zn,zn,zn,zn,zn,zn,zn,zn,zi 6,zi 0,ze,zn,zn,zn,zn,zn,zn,zp 870 2,zn,zi 9,zi 2,ze,zn,zn,zn,zn,zn,zn,zn,zn,zi 6,zi 0,ze,zn,zn,zn,zn,zn,zn,zp 871 3,zn,zi 9,zi 3,ze,zn,zn,zn,zn,zn,zn,zn,zn,zi 6,zi 0,ze,zn,zn,zn,zn,zn,zn,zp 872 4,zn,zi 9,zi 4,ze,zn,zn,zn,zn,zn,zn,zn,zn],178,11,G7⟩]⟩
noncomputable def mes13:List ME:=me12::mes12
noncomputable def me13:ME:=⟨11,[.agg #[.slice (G5 ⟨216,0,G5 0⟩) 1 1,.int .i64 0],.agg #[.slice (G5 ⟨183,0,G5 0⟩) 7 7,.int .i64 6]],[⟨107,⟨[zi 0,zi 1],3,1,G7⟩⟩,⟨148,⟨[zi 3,zi 4],3,0,G7⟩⟩,⟨155,⟨[zi 2,zi 5],3,1,G7⟩⟩,⟨183,⟨nd 6 (.string ⟨#[111,107]⟩) zn<|nf 3 (-9223372036854775808) 9223372036854775807 ze zn zn 0 0<|nk 10 (zp 107 2)<|nl 7<|nl 9<|nk 12 (zq 148 2)<|nk 16 (zp 155 2)<|[],61,8,G7⟩⟩,⟨216,⟨nl 2<|[],61,8,G7⟩⟩],219,.bool G7,[]⟩
noncomputable def mes14:List ME:=me13::mes13
theorem mes_cons {e:ME}{l:List ME}(h:gi Tryz.prog e)(k:∀x∈l,gi Tryz.prog x):∀x∈e::l,gi Tryz.prog x:=fun x hx=>(List.mem_cons.1 hx).elim (fun e=>e▸h) (k x)
theorem ran {e:ME}{l:List ME}(hl:∀x∈l,gi Tryz.prog x)(s:List Nat)(hs:e.stat=G6)(hr:e.ran s (dN Tryz.prog (iN l (ji 100000 200)) 100000 200 e.f e.args e.heap)=G6):gi Tryz.prog e:=Gl fe B9 (rZ (xH 100000 200) hl) 100000 200 s hs hr
end Go.Ev
