/- Walks and plain facts for the laws of membership, for all values and types that the heap holds (texts Inv C2). -/
import Derived.Test.YtjgldaaofdpcgaaGreatW02
import Derived.Test.YtjgldaaofdpcgaaGreatW03
import Derived.Test.YtjgldaaofdpcgaaGreatW40
set_option linter.unusedVariables false
set_option linter.unusedSimpArgs false
namespace Go.Inv
open Go Go.Lex Go.LexK

def t8q (ops : Array Oper) : Bool:=(List.range ops.size).all fun i=>((ops[i]?).map fun o=>o.after.all fun e=>decide (e.on < i)).getD true
section
variable {P : Program} {ops : Array Oper} {Q : Exit → Act → World → Prop}
theorem tie {listed : Array Bool} {i : Nat} {o : Oper} (ho : ops[i]? = some o) (h1 : listed.getD i true = false) (h2 : ∀ e ∈ o.after.toList,Region.binds .any e = true → listed.getD e.on false = true) : i ∈ Region.ready .any ops listed:=by
  unfold Region.ready
  rw [List.mem_filter]
  refine ⟨by rw [List.mem_range];exact (Array.getElem?_eq_some_iff.1 ho).1,?_⟩
  rw [h1,ho]
  simp only [Bool.not_false,Bool.true_and,Option.map_some,Option.getD_some]
  rw [Array.all_eq_true_iff_forall_mem]
  intro e he
  cases hb : Region.binds .any e with
  | false=>rfl
  | true=>simpa using h2 e (by simpa using he) hb
theorem tan {listed : Array Bool} {i : Nat} (h : i ∈ Region.ready .any ops listed) : ∃ o,ops[i]? = some o ∧ listed.getD i true = false ∧ ∀ e ∈ o.after.toList,Region.binds .any e = true → listed.getD e.on false = true:=by
  unfold Region.ready at h
  rw [List.mem_filter] at h
  obtain ⟨h1,h2⟩:=h
  have hlt : i < ops.size:=List.mem_range.1 h1
  have ho : ops[i]? = some ops[i]:=Array.getElem?_eq_getElem hlt
  rw [ho] at h2
  simp only [Option.map_some,Option.getD_some,Bool.and_eq_true,Bool.not_eq_true'] at h2
  refine ⟨_,ho,h2.1,fun e he hb=>?_⟩
  have h3:=h2.2
  rw [Array.all_eq_true_iff_forall_mem] at h3
  have:=h3 e (by simpa using he)
  rw [hb] at this
  simpa using this
theorem tch {listed : Array Bool} (hb : t8q ops = true) (h : Region.ready .any ops listed = []) (hs : listed.size = ops.size) : ∀ i,i < ops.size → listed.getD i false = true:=by
  intro i
  induction i using Nat.strongRecOn with
  | _ i ih =>
    intro hi
    have ho : ops[i]? = some ops[i]:=Array.getElem?_eq_getElem hi
    cases hl : listed.getD i false with
    | true=>rfl
    | false =>
      exfalso
      have hl2 : listed.getD i true = false:=by
        have : i < listed.size:=by omega
        simp [this] at hl ⊢
        exact hl
      have hback : ∀ e ∈ (ops[i]).after.toList,e.on < i:=by
        unfold t8q at hb
        rw [List.all_eq_true] at hb
        have:=hb i (List.mem_range.2 hi)
        rw [ho] at this
        simp only [Option.map_some,Option.getD_some] at this
        rw [Array.all_eq_true_iff_forall_mem] at this
        intro e he
        simpa using this e (by simpa using he)
      have:=tie ho hl2 (fun e he _=>ih e.on (hback e he) (by have:=hback e he;omega))
      rw [h] at this
      cases this
theorem tfz {listed : Array Bool} {i n : Nat} (hi : listed.getD i true = false) (hn : listed.toList.count false ≤ n + 1) (hs : i < listed.size) : (listed.setIfInBounds i true).toList.count false ≤ n:=by
  rw [Array.toList_setIfInBounds,List.count_set (by simpa using hs)]
  have h1 : listed.toList[i]'(by simpa using hs) = false:=by
    simp [hs] at hi
    simpa using hi
  rw [h1,if_pos (show (false == false) = true from rfl),if_neg (show ¬ (true == false) = true by decide)]
  omega
theorem thg (hb : t8q ops = true) (I : Array Bool → Act → World → Prop)
    (hstep : ∀ listed a w i,listed.size = ops.size → i ∈ Region.ready .any ops listed → I listed a w → wpOp P ops Q i (fun a' w'=>I (listed.setIfInBounds i true) a' w') a w)
    (hend : ∀ listed a w,(∀ i,i < ops.size → listed.getD i false = true) → I listed a w → Q .normal a w) :
    ∀ (fuel : Nat) (listed : Array Bool) (a : Act) (w : World),listed.size = ops.size → listed.toList.count false ≤ fuel → I listed a w → wpAny P .any ops Q fuel listed a w:=by
  intro fuel
  induction fuel with
  | zero =>
    intro listed a w hs hc hI
    have hall : ∀ i,i < listed.size → listed.getD i true = true:=by
      intro i hi
      cases h : listed.getD i true with
      | true=>rfl
      | false =>
        exfalso
        have : false ∈ listed.toList:=by
          simp [hi] at h
          rw [← h];simp
        have:=List.count_pos_iff.2 this
        omega
    have hnil : Region.ready .any ops listed = []:=by
      rw [List.eq_nil_iff_forall_not_mem]
      intro i hi
      obtain ⟨o,ho,h1,_⟩:=tan hi
      rw [hall i (by rw [hs];exact (Array.getElem?_eq_some_iff.1 ho).1)] at h1
      cases h1
    exact ⟨hnil,hend listed a w (tch hb hnil hs) hI⟩
  | succ fuel ih =>
    intro listed a w hs hc hI
    refine ⟨fun hnil=>hend listed a w (tch hb hnil hs) hI,fun i hi=>?_⟩
    refine wpOp_mono (fun a' w' h=>?_) (hstep listed a w i hs hi hI)
    obtain ⟨o,ho,h1,_⟩:=tan hi
    exact ih _ a' w' (by simpa using hs) (tfz h1 hc (by rw [hs];exact (Array.getElem?_eq_some_iff.1 ho).1)) h
theorem tif {listed : Array Bool} {i : Nat} (hi : i < listed.size) : (fun j=>(listed.setIfInBounds i true).getD j false = true) = (fun j=>listed.getD j false = true ∨ j = i):=by
  funext j
  apply propext
  by_cases hj : j = i
  · subst hj;simp [hi]
  · have : i ≠ j:=fun h=>hj h.symm
    simp [hj,Array.getElem?_setIfInBounds,this]
end
theorem wp_region_inv {P : Program} {Q : Exit → Act → World → Prop} (J : (Nat → Prop) → Act → World → Prop) {id : Nat} {a : Act} {w : World} {l : List Oper} (hm : P.follows .mixedOrders = true) (hb : t8q l.toArray = true)
    (h0 : J (fun _=>False) a w.drew)
    (hstep : ∀ (i : Nat) (o : Oper),l[i]? = some o → ∀ (D : Nat → Prop) (a : Act) (w : World),¬ D i → (∀ e ∈ o.after.toList,Region.binds .any e = true → D e.on) → J D a w →
      wpList P l.toArray (Exit.then (fun a' w'=>J (fun j=>D j ∨ j = i) a' w') (fun _ _ _=>False)) [o] a w)
    (hend : ∀ (D : Nat → Prop) (a : Act) (w : World),(∀ i,i < l.length → D i) → J D a w → Q .normal a w) : (Code.region id l.toArray true).wp P Q a w:=by
  refine wp_region_any hm (thg hb (fun listed a w=>J (fun j=>listed.getD j false = true) a w) ?_ ?_ _ _ a _ (by simp) (by simp) ?_)
  · intro listed a w i hs hi hJ
    obtain ⟨o,ho,h1,h2⟩:=tan hi
    have hlt : i < listed.size:=by rw [hs];exact (Array.getElem?_eq_some_iff.1 ho).1
    rw [tif hlt]
    have hn : ¬ listed.getD i false = true:=by simp [hlt] at h1 ⊢;exact h1
    have:=hstep i o (by simpa using ho) _ a w hn h2 hJ
    have hst : wpOp P l.toArray (Exit.then (fun a' w'=>J (fun j=>listed.getD j false = true ∨ j = i) a' w') (fun _ _ _=>False)) i (fun a' w'=>J (fun j=>listed.getD j false = true ∨ j = i) a' w') a w:=by
      unfold wpOp
      simp only [ho]
      exact this
    exact tat t8y hst
  · intro listed a w hall hJ
    exact hend _ a w (fun i hi=>hall i (by simpa using hi)) hJ
  · have : (fun j=>(Array.replicate l.toArray.size false).getD j false = true) = (fun _=>False):=by
      funext j;apply propext;constructor
      · intro h;simp [Array.getElem?_replicate] at h;split at h <;> simp at h
      · intro h;exact h.elim
    rw [this]
    exact h0
end Go.Inv
namespace Go.Proofs.YtjgldaaofdpcgaaGreat
open Go.RowKit Go.Ident
set_option maxRecDepth 100000
theorem t1d {D : Nat → Prop} {l : Array Edge} (hA : ∀ e ∈ l.toList,Region.binds .any e = true → D e.on) (m : Nat) (h : (l.toList.any fun e=>Region.binds .any e && e.on == m) = true) : D m:=by
  rw [List.any_eq_true] at h
  obtain ⟨e,he,h⟩:=h
  simp only [Bool.and_eq_true,beq_iff_eq] at h
  rw [← h.2];exact hA e he h.1
theorem t9m {D : Nat → Prop} {l : Array Edge} (hA : ∀ e ∈ l.toList,Region.binds .any e = true → D e.on) {n : Nat} (h : ((List.range n).all fun m=>l.toList.any fun e=>Region.binds .any e && e.on == m) = true) : ∀ m,m < n → D m:=fun m hm=>t1d hA m (List.all_eq_true.1 h m (List.mem_range.2 hm))
theorem kr {A : Prop} {v : Value} : Hid (A → v = v):=fun _=>rfl
theorem k0 {P : Prop} : Hid (False → P):=fun h=>h.elim
theorem kp {A P : Prop} {i j : Nat} (F : Hid (A → P)) (h : ¬ i = j:=by decide) : Hid (A ∨ i = j → P):=fun g=>F.out (g.resolve_right h)
theorem km {A P Q : Prop} {i j : Nat} (F : Hid (A → P)) (f : P → Q) (h : ¬ i = j:=by decide) : Hid (A ∨ i = j → Q):=fun g=>f (F.out (g.resolve_right h))
def LVf (W : World) (v : Value) : Prop:=∃ X,VW W v X ∧ Leaf X
theorem LVf.turn {W W' : World} {v : Value} (h : LVf W v) (hb : Below W.heap.size W W') : LVf W' v:=by
  obtain ⟨X,h1,h2⟩:=h;exact ⟨X,h1.below hb,h2⟩
def LWf (W : World) (v : Value) : Prop:=∃ X,VW W v X ∧ X.nodes ≤ 1 ∧ X.labels.length ≤ 1
theorem LWf.turn {W W' : World} {v : Value} (h : LWf W v) (hb : Below W.heap.size W W') : LWf W' v:=by
  obtain ⟨X,h1,h2⟩:=h;exact ⟨X,h1.below hb,h2⟩
theorem SS.below' {W W' : World} {v : Value} {l : List ByteArray} (h : SS W v l) (hb : Below W.heap.size W W') : SS W' v l:=by
  obtain ⟨p,c,e,h1⟩:=h;exact ⟨p,c,e,h1.below hb fun _ _ _ h=>h⟩
def SLf (W : World) (v : Value) (s : ByteArray) : Prop:=∃ u,v = u ∧ SS W u [s]
theorem SLf.turn {W W' : World} {v : Value} {s : ByteArray} (h : SLf W v s) (hb : Below W.heap.size W W') : SLf W' v s:=by
  obtain ⟨u,h1,h2⟩:=h;exact ⟨u,h1,h2.below' hb⟩
theorem tjf {B : Nat} (w : World) (s : ByteArray) (hB : B ≤ w.heap.size) : SLf (we (lo B) (w.alloc (.cells #[.string s] 9))) (.slice (some ⟨w.heap.size,0,none⟩) 1 1) s:=by
  refine ⟨_,rfl,some ⟨w.heap.size,0,none⟩,1,rfl,⟨by simp,by simp⟩,[.string s],⟨by simp,fun _=>⟨w.heap.size,0,rfl,?_,?_⟩⟩,?_⟩
  · rw [t0j];simp
  · intro j v hv
    match j,hv with
    | 0,hv =>
      obtain rfl : Value.string s = v:=by simpa using hv
      have h1 : (we (lo B) (w.alloc (.cells #[.string s] 9))).heap[w.heap.size]? = some (.cells #[.string s] 9):=(we_at (t1g B _ hB)).trans (heap_alloc_new w _)
      simp [World.cell?,h1]
    | j + 1,hv=>simp at hv
  · intro i hi
    have : i = 0:=by simp at hi;omega
    subst this
    rfl
set_option maxHeartbeats 64000000 in
theorem tig (T : Ty) (tv : Value) (S : SD) (kn : Nat) (h : Int) (n : TN) (h1 : 1 ≤ h) (hh : h ≤ 1000) (hkn : kn < T.nodes.length) (hnode : T.nodes[kn] = n) (hkd : n.kind = 19) (w : World) (hS : SRC S w) (hT : TB S T tv w) : Calls Tryz.prog 40 #[.pointer (some ⟨S.b,0,none⟩),tv,.int .i64 (kn : Int),.int .i64 h] w (GV (fun V=>V.nodes ≤ 1 ∧ V.labels.length ≤ 1) S w):=by
  have hltS:=hS.lt
  obtain ⟨pT,cT,rfl,hR,-⟩:=id hT
  obtain ⟨a,o,cs,rfl,hal,-,hrange,hNC⟩:=hR.all hkn
  rw [hnode] at hNC
  obtain ⟨kd,lo_,hi_,tx,ks,fs,r0,r1⟩:=n
  obtain ⟨p1,c1,p2,c2,rfl,hI,hF⟩:=hNC
  simp only at hI hF hrange
  obtain rfl : kd = 19:=hkd
  obtain ⟨w2,e9,hA,hC,hb⟩:=t1f w (.cells #[.slice (some ⟨a,o,none⟩) T.nodes.length cT,.int .i64 T.root] 31) (.cells #[.int .i64 0,.int .i64 0,.string ⟨#[]⟩,.slice none 0 0,.slice none 0 0,.slice none 0 0,.slice none 0 0] 28)
  have hs2 : w2.heap.size = w.heap.size + 2:=by rw [← e9];simp
  obtain ⟨w4,e8,hB4,hV4,hb4⟩:=t1f w2 (.cells #[.int .i64 19,.int .i64 lo_,.int .i64 hi_,.string tx,.slice p1 ks.length c1,.slice p2 fs.length c2,.int .i64 r0,.int .i64 r1] 48) (.cells #[.int .i64 0,.int .i64 0,.string ⟨#[]⟩,.slice none 0 0,.slice none 0 0,.slice none 0 0,.slice none 0 0] 28)
  have hs4 : w4.heap.size = w2.heap.size + 2:=by rw [← e8];simp
  have E8:=zH e8;clear e8
  have H2:=zH ((SR.refl hS).app hb)
  have H4:=zH (H2.out.step hb4)
  have hrg:=hrange _ H2.out.bel
  have a0:=t0l (hrg 0 _ rfl);have a1:=t0l (hrg 1 _ rfl);have a2:=t0l (hrg 2 _ rfl);have a3:=t0l (hrg 3 _ rfl)
  have a4:=t0l (hrg 4 _ rfl);have a5:=t0l (hrg 5 _ rfl);have a6:=t0l (hrg 6 _ rfl);have a7:=t0l (hrg 7 _ rfl)
  simp only [Nat.add_zero] at a0
  have HT:=zH (hT.sr H4.out);have HT0:=zH hT;have HI0:=zH hI
  have HI:=zH (show IS (wo S.b w4) (.slice p1 ks.length c1) ks from hI.below H4.out.bel)
  have HF:=zH (show Rw (wo S.b w4) p2 c2 4 fs FC from hF.below H4.out.bel fun _ _ _ h=>h)
  have hNC : NC (wo S.b w4) ⟨19,lo_,hi_,tx,ks,fs,r0,r1⟩ [.int .i64 19,.int .i64 lo_,.int .i64 hi_,.string tx,.slice p1 ks.length c1,.slice p2 fs.length c2,.int .i64 r0,.int .i64 r1]:=⟨p1,c1,p2,c2,rfl,HI.out,HF.out⟩
  have HNC:=zH hNC
  rw [hs2] at hB4 hV4
  have HB4:=zH hB4;have HV4:=zH hV4
  have HA4:=zH ((hb4.block w.heap.size (by omega)).trans hA)
  have HO4:=zH ((hb4.block (w.heap.size + 1) (by omega)).trans hC)
  obtain ⟨g0,g1⟩:=t0k hA
  have Hs4:=zH (show w4.heap.size = (w.heap.size + 4) by omega)
  have Hb:=zH (show (w.heap.size + 1) ≠ S.b by omega)
  have HEx:=zH (show lo (w.heap.size + 4) (w.heap.size + 1) = true by simp [lo])
  have HEl:=zH (show ∀ k,k < w.heap.size → lo (w.heap.size + 4) k = true from fun k hk=>by simp [lo];omega)
  have dk : decide (T.nodes.length ≤ kn) = false:=by simp;omega
  have dk2 : decide (kn < T.nodes.length) = true:=by simp [hkn]
  have dk3 : decide ((kn : Int) < 0) = false:=by simp
  have dh : decide (h ≤ 0) = false:=by simp;omega
  clear hB4 hV4 hA hC hb hb4 hR hrange hrg hI hF hNC hS hT hnode
  go_enter Tryz.func40,Tryz.ntmps40
  go_upto_region 1 with fail
  try rw [e9]
  go_upto_region 5 with fail
  (try have e8:=E8.out)
  try rw [hs2]
  try rw [e8]
  try rw [hs2]
  clear e9 e8 E8 g0 g1 a0 a1 a2 a3 a4 a5 a6 a7 dk dk3 dh hs2 hs4
  obtain ⟨⟨n0,n1,n2,n3⟩,n4,n5,n6,n7⟩:=t0y HB4.out
  have hw4 : (w.heap.size + 4) ≤ w4.heap.size:=by have:=Hs4.out;omega
  have Hsrc:=zH H4.out.src
  have Hbo:=zH (show (w.heap.size + 1) ≠ S.b by omega)
  go_upto_region 47 with fail
  clear n0 n1 n2 n3 n4 n5 n6 n7
  obtain ⟨fr,hfr⟩ : ∃ fr : Value → Value → Value → Value → Value → Value → Act,fr = fun s209 s210 s211 s212 s213 s214=>⟨#[Value.pointer (some { block:=S.b,off:=0 }),Value.agg #[Value.slice (some { block:=a,off:=o }) T.nodes.length cT,Value.int IntKind.i64 T.root],Value.int IntKind.i64 ↑kn,Value.int IntKind.i64 h,undef,Value.pointer (some { block:=w.heap.size,off:=0 }),undef,undef,Value.pointer (some { block:=w.heap.size + 1,off:=0 }),Value.pointer (some { block:=w.heap.size + 2,off:=0 }),Value.pointer (some { block:=w.heap.size + 2 + 1,off:=0 }),undef,undef,Value.int IntKind.i64 h,Value.bool false,Value.bool false,Value.int IntKind.i64 ↑kn,Value.bool false,Value.bool false,Value.bool false,Value.int IntKind.i64 ↑kn,Value.pointer (some { block:=w.heap.size,off:=0 }),Value.slice (some { block:=a,off:=o }) T.nodes.length cT,Value.int IntKind.i64 ↑T.nodes.length,Value.bool false,Value.bool false,undef,undef,Value.pointer (some { block:=w.heap.size,off:=0 }),Value.slice (some { block:=a,off:=o }) T.nodes.length cT,Value.int IntKind.i64 ↑kn,Value.pointer (some { block:=a,off:=o + kn * 8 }),Value.agg #[Value.int IntKind.i64 19,Value.int IntKind.i64 lo_,Value.int IntKind.i64 hi_,Value.string tx,Value.slice p1 ks.length c1,Value.slice p2 fs.length c2,Value.int IntKind.i64 r0,Value.int IntKind.i64 r1],Value.agg #[Value.int IntKind.i64 0,Value.int IntKind.i64 0,Value.string { data:=#[] },Value.slice none 0 0,Value.slice none 0 0,Value.slice none 0 0,Value.slice none 0 0],Value.pointer (some { block:=w.heap.size + 2,off:=0 }),Value.int IntKind.i64 19,Value.bool false,Value.bool false,undef,undef,undef,undef,undef,undef,undef,undef,undef,undef,undef,undef,undef,undef,undef,undef,undef,undef,undef,undef,Value.bool false,Value.bool false,undef,undef,undef,Value.bool false,Value.bool false,undef,undef,undef,Value.bool false,Value.bool false,undef,undef,undef,Value.bool false,Value.bool false,undef,undef,undef,Value.bool false,Value.bool false,undef,undef,undef,Value.bool false,Value.bool false,undef,Value.bool false,Value.bool false,Value.bool false,undef,undef,undef,undef,undef,undef,undef,undef,undef,undef,undef,undef,undef,undef,undef,undef,undef,undef,undef,undef,undef,undef,undef,undef,undef,undef,undef,undef,undef,undef,undef,undef,undef,undef,undef,undef,undef,undef,Value.bool false,Value.bool false,undef,undef,undef,undef,undef,Value.bool false,Value.bool false,undef,undef,undef,undef,undef,Value.bool false,Value.bool false,undef,undef,undef,undef,undef,undef,undef,undef,undef,undef,undef,undef,undef,Value.bool false,Value.bool false,undef,undef,undef,undef,undef,undef,undef,undef,undef,undef,undef,undef,undef,undef,undef,undef,undef,undef,undef,undef,undef,undef,undef,undef,undef,undef,undef,undef,undef,undef,undef,undef,undef,undef,undef,undef,undef,undef,undef,undef,undef,undef,undef,undef,undef,undef,undef,undef,undef,Value.bool true,Value.bool true,s209,s210,s211,s212,s213,s214,undef,undef],[]⟩:=⟨_,rfl⟩
  obtain ⟨J,hJd⟩ : ∃ J : (Nat → Prop) → Act → World → Prop,J = fun (D : Nat → Prop) (ac : Act) (w' : World)=>(D 6 → (∀ i,i < 6 → D i) ∧ ∃ (s209 s210 s211 s212 s213 s214 : Value),ac = fr s209 s210 s211 s212 s213 s214 ∧ ∃ (X : VV) (x1 : Option Addr) (x2 : Nat) (x3 : Option Addr) (x4 : Nat) (x5 : Option Addr) (x6 : Nat) (x7 : Option Addr) (x8 : Nat),w'.heap[(w.heap.size + 1)]? = some (.cells #[.int .i64 X.kind,.int .i64 X.num,.string X.text,.slice x1 X.kids.length x2,.slice x3 X.keys.length x4,.slice x5 X.ents.length x6,.slice x7 X.labels.length x8] 28) ∧ VW (we (lo w.heap.size) w') (.agg #[.int .i64 X.kind,.int .i64 X.num,.string X.text,.slice x1 X.kids.length x2,.slice x3 X.keys.length x4,.slice x5 X.ents.length x6,.slice x7 X.labels.length x8]) X ∧ (X.nodes ≤ 1 ∧ X.labels.length ≤ 1) ∧ SR S w w') ∧ (¬ D 6 → ∃ (s209 s210 s211 s212 s213 s214 : Value),ac = fr s209 s210 s211 s212 s213 s214 ∧ Hid (SR S w4 w') ∧ Hid (D 0 → s209 = .pointer (some ⟨S.b,0,none⟩)) ∧ Hid (D 1 → LVf (we (lo (w.heap.size + 4)) w') s210) ∧ Hid (D 2 → s211 = .pointer (some ⟨w.heap.size + 2,3,none⟩)) ∧ Hid (D 3 → s212 = .string tx) ∧ Hid (D 4 → SLf (we (lo (w.heap.size + 4)) w') s213 tx) ∧ Hid (D 5 → LWf (we (lo (w.heap.size + 4)) w') s214)):=⟨_,rfl⟩
  subst hfr
  have HJ:=zH hJd;clear hJd
  refine Inv.wp_region_inv J (by kernel_rfl) (by decide +kernel) ?_ ?_ ?_
  · rw [HJ.out]
    exact ⟨fun h=>h.elim,fun _=>⟨_,_,_,_,_,_,rfl,zH (SR.refl Hsrc.out).drew,k0,k0,k0,k0,k0,k0⟩⟩
  · intro i op hi D ac w' hD hA hJ
    rw [HJ.out] at hJ
    have hl : ¬ D 6:=fun hl=>hD (if e : i = 6 then e ▸ hl else (hJ.1 hl).1 i (by have h1:=Nat.lt_of_lt_of_le (List.getElem?_eq_some_iff.1 hi).1 (show _ ≤ 7 by decide +kernel);omega))
    obtain ⟨s209,s210,s211,s212,s213,s214,e0,Hb,F0,F1,F2,F3,F4,F5⟩:=hJ.2 hl
    have HD:=zH hD;have HLL:=zH hl;clear hJ hD hl
    match i,hi,hA,HD with
    | 0,hi,hA,HD =>
      obtain rfl:=Option.some.inj hi;subst e0;clear hi
      clear hA
      go_wp2
      rw [HJ.out]
      exact ⟨fun h=>absurd (h.resolve_right (by decide)) HLL.out,fun _=>⟨_,_,_,_,_,_,rfl,Hb,zH fun _=>rfl,kp F1,kp F2,kp F3,kp F4,kp F5⟩⟩
    | 1,hi,hA,HD =>
      obtain rfl:=Option.some.inj hi;subst e0;clear hi
      have d0:=t1d hA 0 (by decide +kernel);clear hA
      obtain rfl:=F0.out d0
      go_wp2_with (go_at_call 41;refine (t2y S w' Hb.out.src).mono ?_;rintro e w5 ⟨v5,X,rfl,hx,hq,hs⟩;have HL:=zH (show LVf (we (lo (w.heap.size + 4)) w5) v5 from ⟨X,hx.sub (t1m w5 (show (w.heap.size + 4) ≤ w'.heap.size from Nat.le_trans hw4 Hb.out.size)),hq⟩);have HS:=zH hs;have HW:=zH (show Below (we (lo (w.heap.size + 4)) w').heap.size (we (lo (w.heap.size + 4)) w') (we (lo (w.heap.size + 4)) w5) by rw [t0j];exact hs.we (by simp [lo];omega));clear hx hq hs)
      rw [HJ.out]
      exact ⟨fun h=>absurd (h.resolve_right (by decide)) HLL.out,fun _=>⟨_,_,_,_,_,_,rfl,zH (Hb.out.trans HS.out),kr,zH fun _=>HL.out,kp F2,kp F3,km F4 fun q=>(q).turn HW.out,km F5 fun q=>(q).turn HW.out⟩⟩
    | 2,hi,hA,HD =>
      obtain rfl:=Option.some.inj hi;subst e0;clear hi
      clear hA
      go_wp2
      rw [HJ.out]
      exact ⟨fun h=>absurd (h.resolve_right (by decide)) HLL.out,fun _=>⟨_,_,_,_,_,_,rfl,Hb,kp F0,kp F1,zH fun _=>rfl,kp F3,kp F4,kp F5⟩⟩
    | 3,hi,hA,HD =>
      obtain rfl:=Option.some.inj hi;subst e0;clear hi
      have d2:=t1d hA 2 (by decide +kernel);clear hA
      obtain rfl:=F2.out d2
      have n3:=(t0y (((Hb.out.block (by omega) (by omega)).trans HB4.out : w'.heap[w.heap.size + 2]? = _))).1.2.2.2
      go_wp2
      rw [HJ.out]
      exact ⟨fun h=>absurd (h.resolve_right (by decide)) HLL.out,fun _=>⟨_,_,_,_,_,_,rfl,Hb,kp F0,kp F1,kr,zH fun _=>rfl,kp F4,kp F5⟩⟩
    | 4,hi,hA,HD =>
      obtain rfl:=Option.some.inj hi;subst e0;clear hi
      have d3:=t1d hA 3 (by decide +kernel);clear hA
      obtain rfl:=F3.out d3
      go_wp2
      have hal:=(Below.refl w'.heap.size w').alloc (Nat.le_refl _) (.cells #[.string tx] 9)
      have HS:=zH ((SR.refl Hb.out.src).step hal)
      have HW:=zH (show Below (we (lo (w.heap.size + 4)) w').heap.size (we (lo (w.heap.size + 4)) w') (we (lo (w.heap.size + 4)) (w'.alloc (.cells #[.string tx] 9))) by rw [t0j];exact t1l hal)
      have HL:=zH (tjf (B:=(w.heap.size + 4)) w' tx (Nat.le_trans hw4 Hb.out.size))
      clear hal
      rw [HJ.out]
      exact ⟨fun h=>absurd (h.resolve_right (by decide)) HLL.out,fun _=>⟨_,_,_,_,_,_,rfl,zH (Hb.out.trans HS.out),kp F0,km F1 fun q=>(q).turn HW.out,kp F2,kr,zH fun _=>HL.out,km F5 fun q=>(q).turn HW.out⟩⟩
    | 5,hi,hA,HD =>
      obtain rfl:=Option.some.inj hi;subst e0;clear hi
      have d1:=t1d hA 1 (by decide +kernel);have d4:=t1d hA 4 (by decide +kernel);clear hA
      obtain ⟨X,hX,hXl⟩:=F1.out d1
      obtain ⟨u,rfl,hu⟩:=F4.out d4
      go_wp2_with (go_at_call 79;refine (tbs (lo (w.heap.size + 4)) X [tx] w' _ _ ((t1g _).mono (Nat.le_trans hw4 Hb.out.size)) hX hu (by simp)).mono ?_;rintro e w5 ⟨v5,l5,rfl,hx,hl,hb5⟩;have HL:=zH (show LWf (we (lo (w.heap.size + 4)) w5) v5 from ⟨X.lab l5,hx,by rw [t5g];exact hXl.2.1,by cases X;exact hl⟩);have HS:=zH ((SR.refl Hb.out.src).step hb5);have HW:=zH (show Below (we (lo (w.heap.size + 4)) w').heap.size (we (lo (w.heap.size + 4)) w') (we (lo (w.heap.size + 4)) w5) by rw [t0j];exact t1l hb5);clear hx hl hb5)
      rw [HJ.out]
      exact ⟨fun h=>absurd (h.resolve_right (by decide)) HLL.out,fun _=>⟨_,_,_,_,_,_,rfl,zH (Hb.out.trans HS.out),kp F0,km F1 fun q=>(q).turn HW.out,kp F2,kp F3,km F4 fun q=>(q).turn HW.out,zH fun _=>HL.out⟩⟩
    | 6,hi,hA,HD =>
      obtain rfl:=Option.some.inj hi;subst e0;clear hi
      have dd:=t9m hA (n:=6) (by decide +kernel)
      have d5:=dd 5 (by decide);clear hA
      obtain ⟨X,hX,hX1,hX2⟩:=F5.out d5
      obtain ⟨dv,cs,rfl,hx⟩:=hX
      obtain ⟨x1,x2,x3,x4,x5,x6,x7,x8,rfl⟩:=hx.seven
      have HX:=zH hx
      have ZO:=zH ((Hb.out.block (k:=(w.heap.size + 1)) (by omega) Hbo.out).trans HO4.out)
      clear hx
      go_wp2_with (with_reducible refine wpList_store_row rfl 28 (.tmp 8) (.tmp 214) rfl _ _ rfl rfl _ _ ZO.out (by kernel_rfl) (by kernel_rfl) (by kernel_rfl) ?_)
      rw [HJ.out]
      exact ⟨fun _=>⟨fun k hk=>.inl (dd k hk),_,_,_,_,_,_,rfl,⟨X,_,_,_,_,_,_,_,_,setRow_heap _ _ _ _ _ _ ZO.out,t1v ⟨dv,_,rfl,HX.out⟩ HEx.out HEl.out _,⟨hX1,hX2⟩,(H4.out.trans Hb.out).row (by omega) Hbo.out _⟩⟩,fun h=>absurd (.inr rfl) h⟩
    | n + 7,hi,hA,HD=>cases hi
  · intro D ac w' hall hJ
    rw [HJ.out] at hJ
    obtain ⟨-,s209,s210,s211,s212,s213,s214,rfl,hfin⟩:=hJ.1 (hall 6 (by decide))
    clear hall hJ
    obtain ⟨X,x1,x2,x3,x4,x5,x6,x7,x8,hc,hv,hq,hs⟩:=hfin
    have HC:=zH hc;have HV:=zH hv;have HQ:=zH hq;have HS:=zH hs
    clear hc hv hq hs
    go_wp2
    refine bodyPost_ret (results_cell_row rfl _ _ (w.heap.size + 1) 28 _ (0,0) _ rfl HC.out rfl rfl (by kernel_rfl)) rfl ?_
    exact ⟨_,X,rfl,HV.out,HQ.out,HS.out⟩
end Go.Proofs.YtjgldaaofdpcgaaGreat
