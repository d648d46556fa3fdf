/- For every input TopVariables returns true and leaves its arguments as they were; the six listed variables are tied to the program (no other condition). -/
import Derived.Deep.Slices
import Derived.Deep.Fields
import Derived.ChangeSame
import Derived.ChangeShapes
import Derived.ProofKit
import Derived.OpenShut
import Derived.Test.YtfpahmeploondaaGreatDoorCards
import Derived.Test.YtfpahmeploondaaGreatDoorTie
import Derived.WalkKit
import Derived.ShutString
import Derived.Below
import Derived.ChangeOld
import Derived.LaidMore
import Derived.Stop.Joined
import Derived.SevenTiedAt
import Derived.Test.YtfpahmeploondaaGreatDoorR03
import Derived.Test.YtfpahmeploondaaGreatDoorR05
import Derived.Test.YtfpahmeploondaaGreatDoorR52
import Derived.Test.YtfpahmeploondaaGreatDoorR53
set_option linter.unusedVariables false
set_option linter.unusedSimpArgs false
set_option maxHeartbeats 64000000
open Option.some renaming inj -> Iq
namespace Go.OpenFields
open Go Go.ChangeShapes Go.WideShapes Go.Deep
section
variable {H:Type} {enc:TypeId×Value->H} {P:Program} {w:World} {base:Nat} {spare:Nat->Bool} {held:Bool}
theorem rows_of {t e:TypeId}{fuel:Nat}{cs:List Value}{x:DataW H×List MemPlace}(ht:P.underlying t=some (.slice e))(h:DataW.trod enc P w base spare held fuel t cs=some x):
 cs=[.slice none 0 0]\/∃(a:Addr) (len cap:Nat),cs=[.slice (some a) len cap]/\len<=cap/\cap<=maxLen/\
  ∀i,i<len->∃(es:List Value) (n:Nat) (y:DataW H×List MemPlace),es.length=P.cellsOf e/\(∀j,j<P.cellsOf e->w.cell? (a.add (i*P.cellsOf e+j))=es[j]?)/\DataW.trod enc P w base spare held n e es=some y:=by
 rcases open_slice ht h with⟨h0,_⟩|⟨a,len,cap,m,n,D,Pl,hcs,_,hl,hm,hmm,_,hi⟩
 ·exact .inl h0
 refine .inr ⟨a,len,cap,hcs,hl,hm,fun i hil=>?_⟩;have him:i<m:=by rw[hmm];split<;>omega
 obtain⟨es,hes,hr⟩:=hi i him;obtain⟨_,hlen,hat⟩:=World.cells?_some hes;refine⟨es,n,_,hlen,fun j hj=>?_,hr⟩;rw[<-add_add];exact hat j hj
theorem int_of {t:TypeId}{k:IntKind}{n:Nat}{cs:List Value}{y:DataW H×List MemPlace}(ht:P.underlying t=some (.int k))(h:DataW.trod enc P w base spare held n t cs=some y):
 ∃q:Int,cs=[.int k q]/\(Lit.int k q).wf=true:=by
 obtain⟨q,h1,_,h2⟩:=DataW.trod_int ht h;exact⟨q,h1,h2⟩
end
theorem add_none(b o i:Nat):(⟨b,o,none⟩:Addr).add i=⟨b,o+i,none⟩:=by
 unfold Addr.add;split
 ·rename_i h;subst h;rfl
 ·rfl
theorem lt_of_cell {w:World}{b o:Nat}{v:Value}(h:w.cell? ⟨b,o,none⟩=some v):b<w.heap.size:=by
 rcases Nat.lt_or_ge b w.heap.size with h'|h'
 ·exact h'
 ·simp[World.cell?,Array.getElem?_eq_none h']at h
end Go.OpenFields
namespace Go.Proofs.YtfpahmeploondaaGreatDoor
open Go.ChangeShapes Go.WideShapes Go.ChangeAt Go.RowKit
theorem uC {α:Type}{P:Nat->α->Prop}:∀n,(∀i,i<n->∃x,P i x)->∃l:List α,l.length=n/\∀i (h:i<l.length),P i l[i]:=by
 intro n
 induction n with
 |zero=>intro _;exact⟨[],rfl,fun i h=>absurd h (by simp)⟩
 | succ n ih =>
   intro h;obtain⟨l,hl,hP⟩:=ih fun i hi=>h i (by omega)
   obtain⟨x,hx⟩:=h n (by omega);refine⟨l++[x],by simp[hl],fun i hi=>?_⟩;by_cases hin:i<l.length
   ·rw[List.getElem_append_left hin];exact hP i hin
   ·have hi2:i=n:=by simp at hi;omega
    subst hi2;rw[List.getElem_append_right (by omega)];simpa[hl]using hx
theorem sc {H:Type}{enc:TypeId×Value->H}{W:World}{spare:Nat->Bool}{held:Bool}{v:Value}{x:DataW H×List MemPlace}{fuel:Nat}(hf:DataW.trod enc Tryz.prog W 0 spare held fuel 22 [v]=some x):
 ∃xs:List Int,IS W v xs/\xs.length<=maxLen/\∀x∈xs,(Lit.int .i64 x).wf=true:=by
 have hC:Tryz.prog.cellsOf 3=1:=by kernel_rfl
 rcases OpenFields.rows_of Tryz.underlying22 hf with hcs|⟨a,l,c,hcs,hl,hm,hi⟩
 ·simp only[List.cons.injEq,and_true]at hcs;subst hcs;exact⟨[],IS.nil W,by simp,by simp⟩
 simp only[List.cons.injEq,and_true]at hcs;subst hcs;by_cases hz:l=0
 ·subst hz;exact⟨[],⟨some a,c,rfl,by simp,RC.nil _ _ _⟩,by simp,by simp⟩
 rw[hC]at hi;obtain⟨ab,off,spot⟩:=a;have hsp:spot=none:=by
  obtain⟨es,n,y,h1,h2,h3⟩:=hi 0 (by omega);have h4:=h2 0 (by omega);cases es with
  |nil=>simp at h1
  |cons x r=>simpa[Addr.add]using World.cell?_spot h4
 subst hsp;obtain⟨ls,hls,hP⟩:=uC (P:=fun i (x:Int)=>W.cell? ⟨ab,off+i,none⟩=some (.int .i64 x)/\(Lit.int .i64 x).wf=true) l (fun i hil=>by
  obtain⟨es,n,y,h1,h2,h3⟩:=hi i hil;obtain⟨x0,g0,gw⟩:=OpenFields.int_of Tryz.underlying3 h3;have h5:=h2 0 (by omega);rw[OpenFields.add_none,Nat.mul_one,Nat.add_zero,g0]at h5;exact⟨x0,h5,gw⟩)
 refine⟨ls,⟨some ⟨ab,off,none⟩,c,by rw[hls],by omega,by rw[nG,Nat.mul_one],fun h0=>⟨ab,off,rfl,OpenFields.lt_of_cell (hP 0 h0).1,fun j u hu=>?_⟩⟩,by omega,fun x hx=>?_⟩
 ·have hj:j<ls.length:=by have:=(List.getElem?_eq_some_iff.1 hu).1;rwa[nG]at this
  have:u=.int .i64 ls[j]:=by
   simp only[ic,List.getElem?_map,List.getElem?_eq_getElem hj,Option.map_some,Option.some.injEq]at hu;exact hu.symm
  rw[this];exact(hP j hj).1
 ·obtain⟨j,hj,rfl⟩:=List.mem_iff_getElem.1 hx;exact(hP j hj).2
end Go.Proofs.YtfpahmeploondaaGreatDoor
namespace Go.Proofs.YtfpahmeploondaaGreatDoor.topVariables
open Go.ChangeShapes Go.WideShapes Go.ChangeAt Go.RowKit
open Go.ChangeMaps (open_string shut_string)
set_option linter.unusedVariables false
theorem own:ownKnob Tryz.prog.godebug=none:=by kernel_rfl
theorem sd:laidOutB Tryz.prog=true:=by kernel_rfl
theorem Cg (os : Os) (args : Array Value) : laidMetH Tryz.prog [("math/bits.deBruijn32tab", Rows.laid_math_bits_deBruijn32tab), ("math/bits.deBruijn64tab", Rows.laid_math_bits_deBruijn64tab), ("internal/strconv.uint64pow10", Rows.laid_internal_strconv_uint64pow10), ("strconv.ErrRange", Rows.laid_strconv_ErrRange), ("strconv.ErrSyntax", Rows.laid_strconv_ErrSyntax), ("bytes.ErrTooLarge", Rows.laid_bytes_ErrTooLarge)] ((World.doorLaid Tryz.prog 400 os).forCall (fun _ _ => 0) ⟨#[], args, []⟩).memory :=
 laidMetH_of_parts3 (fuel:=8) (laidMet_of_run' 8 (by kernel_rfl) (by kernel_rfl)) (by kernel_rfl) (by kernel_rfl)
set_option maxRecDepth 100000 in
theorem Ci(H:Type)(enc:TypeId×Value->H)(W:World)(base:Nat)(args:Array Value)(ds gs:List (DataW H))(before:List MemPlace)
 (hval0:∀(j:Nat) t v,Tryz.f3.params[j]? =some t->args[j]? =some v->Value.okWide Tryz.prog W .any base t v)
 (hW:DataW.Whole enc Tryz.prog Tryz.f3.params.toList Rows.topVariablesSpec.vars false W args.toList ds gs before):
 Calls Tryz.prog 3 args W fun e W'=>∃v,e=.returned v/\Rows.topVariablesSpec.post enc Tryz.prog Tryz.f3 false true false false W args v W':=by
 have hval:∀(j:Nat) t v,Tryz.f3.params[j]? =some t->args[j]? =some v->Value.okWide Tryz.prog W .any base t v:=hval0;have hW':=hW;obtain⟨p,q,hA0,hV,rfl,hfz,hnd⟩:=hW;have hA:DataW.TrodAll enc Tryz.prog W 0 (fun _=>true) true Tryz.f3.params.toList args.toList ds p:=hA0;rw[Tryz.params3]at hA hval;obtain⟨v0,vs0,d0,ds0,p0,q0,hargs,rfl,rfl,h0,r0⟩:=trodAll_cons hA;obtain⟨v1,vs1,d1,ds1,p1,q1,rfl,rfl,rfl,h1,r1⟩:=trodAll_cons r0;obtain⟨v2,vs2,d2,ds2,p2,q2,rfl,rfl,rfl,h2,r2⟩:=trodAll_cons r1;obtain⟨rfl,rfl,rfl⟩:=trodAll_nil r2;obtain rfl:args= #[v0,v1,v2]:=by cases args;simp_all
 obtain⟨rfl,rfl⟩:=trodVars_none hV;clear hA0 hval0;have k0:=h0;have lt0:∀x∈p0,x.block<W.heap.size:=by obtain⟨m,hm⟩:=k0;exact DataW.trod_lt m _ _ _ hm
 have k1:=h1;have lt1:∀x∈p1,x.block<W.heap.size:=by obtain⟨m,hm⟩:=k1;exact DataW.trod_lt m _ _ _ hm
 have k2:=h2;have lt2:∀x∈p2,x.block<W.heap.size:=by obtain⟨m,hm⟩:=k2;exact DataW.trod_lt m _ _ _ hm
 obtain⟨s0,len0,cap0,rfl⟩:=okWide_slice Tryz.underlying22 (hval 0 22 v0 rfl rfl);obtain⟨fuel0,hf0⟩:=h0;obtain⟨L0,hL0,hl0,hw0⟩:=sc hf0;obtain⟨p0',c0',e0,-⟩:=id hL0;injection e0 with e01 e02 e03
 subst e01 e02 e03;obtain⟨s1,len1,cap1,rfl⟩:=okWide_slice Tryz.underlying22 (hval 1 22 v1 rfl rfl);obtain⟨fuel1,hf1⟩:=h1;obtain⟨L1,hL1,hl1,hw1⟩:=sc hf1;obtain⟨p1',c1',e1,-⟩:=id hL1;injection e1 with e11 e12 e13
 subst e11 e12 e13;obtain⟨s2,len2,cap2,rfl⟩:=okWide_slice Tryz.underlying22 (hval 2 22 v2 rfl rfl);obtain⟨fuel2,hf2⟩:=h2;obtain⟨L2,hL2,hl2,hw2⟩:=sc hf2;obtain⟨p2',c2',e2,-⟩:=id hL2;injection e2 with e21 e22 e23
 subst e21 e22 e23;refine(DR _ _ _ _ _ _ L0 L1 L2 W hL0 hL1 hL2:Calls Tryz.prog 3 _ W _).mono fun e W' ⟨he,bel⟩=>?_
 subst he;exact⟨_,rfl,_,_,_,[],_,[],hW',trodAll_mk1 (shut_bool Tryz.underlying4 _),(trodAll_cons_mk (Below.trod sd (by kernel_rfl) (of_decide_eq_true (by kernel_rfl)) k0 bel lt0) (trodAll_cons_mk (Below.trod sd (by kernel_rfl) (of_decide_eq_true (by kernel_rfl)) k1 bel lt1) (trodAll_cons_mk (Below.trod sd (by kernel_rfl) (of_decide_eq_true (by kernel_rfl)) k2 bel lt2) trodAll_mk0))),rfl,bel.frame _,fun h=>by cases h⟩
set_option maxRecDepth 100000 in
theorem Fw(os:Os)(started:os.Started)(H:Type)(enc:TypeId×Value->H):
 ReturnsInHanded {} Tryz.checked os 3 .any (fun w args => (Rows.topVariablesSpec.pre enc Tryz.prog Tryz.f3 [] false w args ∧ laidMetH Tryz.prog [("math/bits.deBruijn32tab", Rows.laid_math_bits_deBruijn32tab), ("math/bits.deBruijn64tab", Rows.laid_math_bits_deBruijn64tab), ("internal/strconv.uint64pow10", Rows.laid_internal_strconv_uint64pow10), ("strconv.ErrRange", Rows.laid_strconv_ErrRange), ("strconv.ErrSyntax", Rows.laid_strconv_ErrSyntax), ("bytes.ErrTooLarge", Rows.laid_bytes_ErrTooLarge)] w) ∧ sizedMet enc Tryz.prog Tryz.f3 (OpenSpec.ofChange Rows.topVariablesSpec) false w args)
  (Rows.topVariablesSpec.post enc Tryz.prog Tryz.f3 false true false false):=by
 refine returnsInHanded_of_change_and (C := Tryz.checked) (X := fun w _ => laidMetH Tryz.prog [("math/bits.deBruijn32tab", Rows.laid_math_bits_deBruijn32tab), ("math/bits.deBruijn64tab", Rows.laid_math_bits_deBruijn64tab), ("internal/strconv.uint64pow10", Rows.laid_internal_strconv_uint64pow10), ("strconv.ErrRange", Rows.laid_strconv_ErrRange), ("strconv.ErrSyntax", Rows.laid_strconv_ErrSyntax), ("bytes.ErrTooLarge", Rows.laid_bytes_ErrTooLarge)] w) (fun _ _ _ hh h => h.of_heap hh) own started (by kernel_rfl) Tryz.func3
  (ChangeSpec.witness_shaped (enc := enc) (C := Tryz.checked) (os := os) (X := fun w _ => laidMetH Tryz.prog [("math/bits.deBruijn32tab", Rows.laid_math_bits_deBruijn32tab), ("math/bits.deBruijn64tab", Rows.laid_math_bits_deBruijn64tab), ("internal/strconv.uint64pow10", Rows.laid_internal_strconv_uint64pow10), ("strconv.ErrRange", Rows.laid_strconv_ErrRange), ("strconv.ErrSyntax", Rows.laid_strconv_ErrSyntax), ("bytes.ErrTooLarge", Rows.laid_bytes_ErrTooLarge)] w) false (World.doorLaid Tryz.prog 400 os) #[.slice none 0 0, .slice none 0 0, .slice none 0 0] 8 rfl (World.shaped_of_RefB (by kernel_rfl) (by kernel_rfl)) (by kernel_rfl) (by kernel_rfl) (by kernel_rfl) (Cg os _)) ?_
 intro W base args ds gs before hval0 hW _ _ _ _;exact Ci H enc W base args ds gs before hval0 hW
theorem row_holds:Rows.TopVariablesSaid:=
 OpenClaim.holds_of_wide 3 Tryz.f3 rfl rfl rfl rfl rfl rfl rfl ⟨rfl,rfl,rfl,rfl,rfl⟩ rfl rfl rfl rfl rfl (by kernel_rfl) Tryz.func3 vZ
  (of_decide_eq_true (by kernel_rfl)) (by unfold Func.isWrapper;first|(rw[if_pos (by decide+kernel)];kernel_rfl)|(rw[if_neg (by decide+kernel)];exact⟨rfl,rfl⟩))
  (fun os started H enc _=>Fw os started H enc)
theorem topVariables_holds:Rows.TopVariablesCardSaid:=
 Claim7.holds_tied_plain_at .later [] [.data, .data, .data, .sentinel, .sentinel, .sentinel] true (true, "f3e0c43558f8a8cd275b05d2de9150d4cc6f4252f4aaf06f8f809679e0626b58") true
  row_holds (fun _ h=>by cases h) (by as_aux_lemma=>kernel_rfl) (fun _ h=>by cases h) topVariables_row_tie rfl ⟨rfl,rfl⟩ (by as_aux_lemma=>kernel_rfl) rfl
  (fun f fn hf hfn=>by
   obtain rfl : f = 3 := Iq ((show Tryz.prog.funcNamed "semtype/semtypetop.TopVariables" = some 3 by as_aux_lemma => kernel_rfl).symm.trans hf) |>.symm;obtain rfl:fn=Tryz.f3:=(Iq (Tryz.func3.symm.trans hfn)).symm;exact⟨by as_aux_lemma=>kernel_rfl,fun j t ht=>by
    rw[Tryz.params3]at ht;have hm:t∈[22,22,22]:=by simpa using Array.mem_of_getElem? ht
    have hall:([22,22,22].all fun u=> !Tryz.prog.wantsStandIn u)=true:=by as_aux_lemma=>kernel_rfl
    exact(show Tryz.prog.wantsStandIn t=false by simpa using List.all_eq_true.1 hall t hm)⟩)
  (by as_aux_lemma=>kernel_rfl)
end Go.Proofs.YtfpahmeploondaaGreatDoor.topVariables
