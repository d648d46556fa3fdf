/- Walks and plain facts for the laws of membership, for all values and types that the heap holds (texts G2 J3 PExplains). -/
import Derived.Test.YtjgldaaofdpcgaaGreatRows
import Derived.WalkKit
import Derived.ProofKit
import Derived.OpenShut
import Derived.ShutString
import Derived.Below
import Derived.ChangeOld
import Derived.Test.YtjgldaaofdpcgaaGreatX03
import Derived.Test.YtjgldaaofdpcgaaGreatX04
import Derived.Test.YtjgldaaofdpcgaaGreatX44
import Derived.Test.YtjgldaaofdpcgaaGreatX45
set_option linter.unusedVariables false
set_option linter.unusedSimpArgs false
namespace Go.Proofs.YtjgldaaofdpcgaaGreat
open Go.RowKit Go.Ident
set_option maxRecDepth 100000
def PQ (T : Ty) (L : List Int) : Prop:=L.head? = some T.root ∧ ∀ (i : Nat) (h : i + 1 < L.length),∃ j : Nat,L[i]'(by omega) = (j : Int) ∧ j < T.nodes.length ∧ L[i + 1] ∈ (T.node (j : Int)).kids
theorem PQ.one (T : Ty) : PQ T [T.root]:=⟨rfl,fun i h=>by simp at h⟩
theorem PQ.push {T : Ty} {l : List Int} {k : Nat} {k2 : Int} (h : PQ T (l ++ [(k : Int)])) (hk : k < T.nodes.length) (h2 : k2 ∈ (T.node (k : Int)).kids) : PQ T ((l ++ [(k : Int)]) ++ [k2]):=by
  refine ⟨by rw [List.head?_append,h.1];rfl,fun i hi=>?_⟩
  by_cases e : i + 1 < (l ++ [(k : Int)]).length
  · obtain ⟨j,h3,h4,h5⟩:=h.2 i e
    refine ⟨j,by rw [List.getElem_append_left (by omega)];exact h3,h4,by rw [List.getElem_append_left e];exact h5⟩
  · have hi2 : i = l.length:=by simp at hi e;omega
    subst hi2
    refine ⟨k,?_,hk,?_⟩
    · rw [List.getElem_append_left (by simp)];simp
    · rw [List.getElem_append_right (by simp)];simpa using h2
theorem tju {w : World} {B : Nat} {v : Value} {l : List Int} (h : w.ownsRow B 3 1 v l.length (ic l)) : IS w v l:=by
  obtain ⟨p,c,rfl⟩:=t0o h
  exact ⟨p,c,rfl,t4m h,RC.of_own h⟩
theorem tjv {w : World} {cs : List Value} {V : VV} (h : VW w (.agg cs.toArray) V) : ∃ d,VS w d V cs:=by
  obtain ⟨d,cs',e,h⟩:=h
  injection e with e
  have : cs = cs':=by simpa using e
  exact ⟨d,this ▸ h⟩
theorem thj {m b : Bool} (h : (m != b) = true) : m = !b:=by cases m <;> cases b <;> first | rfl | cases h
def XR (T : Ty) (V : VV) (n : Nat) (w : World) (e : Ending) (w' : World) : Prop:=∃ v l,e = .returned v ∧ w'.ownsRow w.heap.size 3 1 v l.length (ic l) ∧ l.length ≤ n ∧ (mof T V T.root = true → l = []) ∧ (mof T V T.root = false → PQ T l ∧ ∃ j : Nat,l.getLast? = some (j : Int) ∧ j < T.nodes.length ∧ (T.node (j : Int)).bool = false) ∧ Below w.heap.size w w'
theorem tjw {T : Ty} {V : VV} {ks : List Int} {b : Bool} (h : (ks.any fun x=>mem T V x) = !b) (h1 : 1 ≤ ks.length) : ks.any (fun x=>mem T V x != b) = true:=by
  cases b with
  | true =>
    rw [List.any_eq_true]
    refine ⟨ks[0],List.getElem_mem _,?_⟩
    have h2 : mem T V ks[0] = false:=by
      rw [Bool.eq_false_iff];intro g
      have : ks.any (fun x=>mem T V x) = true:=List.any_eq_true.2 ⟨_,List.getElem_mem (by omega),g⟩
      rw [this] at h;cases h
    rw [h2];rfl
  | false=>rw [← show (false : Bool).not = true from rfl,← h];congr 1;funext x;simp
theorem tjx {T : Ty} {V : VV} {ks : List Int} {b : Bool} (h : (ks.all fun x=>mem T V x) = !b) (h1 : 1 ≤ ks.length) : ks.any (fun x=>mem T V x != b) = true:=by
  cases b with
  | false =>
    rw [List.any_eq_true]
    exact ⟨ks[0],List.getElem_mem _,by rw [List.all_eq_true.1 h _ (List.getElem_mem (by omega))];rfl⟩
  | true =>
    rw [List.any_eq_true]
    rw [Bool.not_true,List.all_eq_false] at h
    obtain ⟨x,hx,h⟩:=h
    exact ⟨x,hx,by simpa using h⟩
set_option maxHeartbeats 64000000 in
theorem tei (T : Ty) (n : Nat) (hD : TD n T) (h1n : 1 ≤ n) (hn : n ≤ 1000) (V : VV) (hvv : V.valid = true) (hnodes : V.nodes ≤ 1048576) (w : World) (v t : Value) (hv : VW w v V) (ht : TS w t T) (hs : SzT T) : Calls Tryz.prog 18 #[v,t] w (XR T V n w):=by
  have hl:=hD.len
  subst hl
  have hw:=hD.wf h1n
  have HV:=zH hv;have HT:=zH ht
  obtain ⟨d,v1,b1,v2,b2,v3,b3,v4,b4,rfl,-,-,-,-,-⟩:=hv.ex
  obtain ⟨pt,ct,rfl,hR,-⟩:=ht
  obtain ⟨w2,e9,hA,hB,hb⟩:=t1f w (.cells #[.int .i64 V.kind,.int .i64 V.num,.string V.text,.slice v1 V.kids.length b1,.slice v2 V.keys.length b2,.slice v3 V.ents.length b3,.slice v4 V.labels.length b4] 28) (.cells #[.slice pt T.nodes.length ct,.int .i64 T.root] 31)
  have hs2 : w2.heap.size = w.heap.size + 2:=by rw [← e9];simp
  have HA:=zH hA;have HB:=zH hB;have Hb:=zH hb;have HR:=zH hR
  obtain ⟨⟨f0,f1,f2,f3⟩,f4,f5,f6⟩:=t0j hA
  obtain ⟨t0,t1⟩:=t0k hB
  have Hval:=zH (t9c V w2 _ (HV.out.below hb) hnodes)
  have hval:=Hval.out
  rw [hvv] at hval
  have Hval:=zH hval
  have Hwf:=zH (fun (w6 : World) (h : Below w2.heap.size w2 w6)=>t7s T w6 _ (HT.out.below (hb.step h)) hs)
  have Hhas:=zH (tbn hw hvv hw.root)
  have Hmof:=zH (tbh hvv hw hw.root)
  have Hw:=zH hw
  have Hs2:=zH hs2
  clear hA hB hb hR hv hval hs2
  cases hm : mem T V T.root with
  | true =>
    have Hr:=zH (show mof T V T.root = true by rw [Hmof.out,hm])
    have hhas:=Hhas.out
    unfold HasC at hhas
    rw [hm] at hhas
    have Hhas:=zH hhas
    clear hm hhas
    go_enter Tryz.func18,Tryz.ntmps18
    go_upto_region 1 with fail
    try rw [e9]
    go_wp2_with (first
      | (go_at_call 28;refine Hval.out.mono ?_;rintro e w6 ⟨rfl,hb6⟩;have Hb6:=zH hb6;clear f0 f1 f2 f3 f4 f5 f6 t0 t1;obtain ⟨⟨f0,f1,f2,f3⟩,f4,f5,f6⟩:=t0j ((Hb6.out.block _ (t0a HA.out)).trans HA.out);obtain ⟨t0,t1⟩:=t0k ((Hb6.out.block _ (t0a HB.out)).trans HB.out);clear hb6)
      | (go_at_call 29;refine (Hwf.out w6 Hb6.out).mono ?_;rintro e w7 ⟨c,rfl,hc,hb7⟩;obtain rfl:=hc.2 Hw.out;have Hb7:=zH (Hb6.out.step hb7);clear f0 f1 f2 f3 f4 f5 f6 t0 t1;obtain ⟨⟨f0,f1,f2,f3⟩,f4,f5,f6⟩:=t0j ((Hb7.out.block _ (t0a HA.out)).trans HA.out);obtain ⟨t0,t1⟩:=t0k ((Hb7.out.block _ (t0a HB.out)).trans HB.out);clear hb7 hc)
      | (go_at_call 30;refine (Hhas.out w7 _ _ (HV.out.below (Hb.out.step Hb7.out)) (HT.out.below (Hb.out.step Hb7.out))).mono ?_;rintro e w8 ⟨rfl,hb8⟩;have Hb8:=zH (Hb.out.step (Hb7.out.step hb8));clear hb8))
    go_ret
    exact ⟨_,[],rfl,World.ownsRow_nil _ _ _ _,by simp,fun _=>rfl,fun h=>(by rw [Hr.out] at h;cases h),Hb8.out⟩
  | false =>
    have Hr:=zH (show mof T V T.root = false by rw [Hmof.out,hm])
    have Hm0:=zH hm
    have hhas:=Hhas.out
    unfold HasC at hhas
    rw [hm] at hhas
    have Hhas:=zH hhas
    clear hm hhas
    go_enter Tryz.func18,Tryz.ntmps18
    go_upto_region 1 with fail
    try rw [e9]
    clear e9
    go_upto_region 4 with (first
      | (go_at_call 28;refine Hval.out.mono ?_;rintro e w6 ⟨rfl,hb6⟩;have Hb6:=zH hb6;clear f0 f1 f2 f3 f4 f5 f6 t0 t1;obtain ⟨⟨f0,f1,f2,f3⟩,f4,f5,f6⟩:=t0j ((Hb6.out.block _ (t0a HA.out)).trans HA.out);obtain ⟨t0,t1⟩:=t0k ((Hb6.out.block _ (t0a HB.out)).trans HB.out);clear hb6)
      | (go_at_call 29;refine (Hwf.out w6 Hb6.out).mono ?_;rintro e w7 ⟨c,rfl,hc,hb7⟩;obtain rfl:=hc.2 Hw.out;have Hb7:=zH (Hb6.out.step hb7);clear f0 f1 f2 f3 f4 f5 f6 t0 t1;obtain ⟨⟨f0,f1,f2,f3⟩,f4,f5,f6⟩:=t0j ((Hb7.out.block _ (t0a HA.out)).trans HA.out);obtain ⟨t0,t1⟩:=t0k ((Hb7.out.block _ (t0a HB.out)).trans HB.out);clear hb7 hc)
      | (go_at_call 30;refine (Hhas.out w7 _ _ (HV.out.below (Hb.out.step Hb7.out)) (HT.out.below (Hb.out.step Hb7.out))).mono ?_;rintro e w8 ⟨rfl,hb8⟩;have Hb8:=zH (Hb7.out.step hb8);clear f0 f1 f2 f3 f4 f5 f6 t0 t1;obtain ⟨⟨f0,f1,f2,f3⟩,f4,f5,f6⟩:=t0j ((Hb8.out.block _ (t0a HA.out)).trans HA.out);obtain ⟨t0,t1⟩:=t0k ((Hb8.out.block _ (t0a HB.out)).trans HB.out);clear hb8))
    have hB5:=heap_alloc_new w8 (.cells #[.bool true] 4)
    have hb5 : Below w8.heap.size w8 (w8.alloc (.cells #[.bool true] 4)):=(Below.refl _ _).alloc (Nat.le_refl _) _
    generalize w8.alloc (.cells #[.bool true] 4) = w9 at *
    have HB9:=zH hB5
    have Hb9:=zH (Hb8.out.step hb5)
    have hlt9:=t0a hB5
    have hw8 : w2.heap.size ≤ w8.heap.size:=Hb8.out.size
    have hD0 : T.root = 0:=hD.root
    have HD0:=zH hD0
    have HP0:=zH (PQ.one T)
    have Hn1:=zH h1n
    have HDD:=zH hD
    clear hB5 hb5 hD0 h1n hD f0 f1 f2 f3 f4 f5 f6 t0 t1
    have hbw1:=hw8
    generalize w8.heap.size = bw at *
    clear hw8
    go_wp2
    go_loopw [4,5] (fun pv nv wr=>∃ (l : List Int) (k : Nat) (b : Bool),nv = .int .i64 (k : Int) ∧ k < T.nodes.length ∧ l.length ≤ k ∧ wr.ownsRow (bw + 1) 3 1 pv l.length (ic l) ∧ PQ T (l ++ [(k : Int)]) ∧ wr.heap[bw]? = some (.cells #[.bool b] 4) ∧ mem T V (k : Int) = !b ∧ Below w2.heap.size w2 wr) (fun _ nv _=>T.nodes.length - (intOf nv).toNat)
    case atStart=>exact ⟨[],0,true,by rw [HD0.out];rfl,Hn1.out,by simp,World.ownsRow_nil _ _ _ _,by have:=HP0.out;rw [HD0.out] at this;exact this,HB9.out,by have:=Hm0.out;rw [HD0.out] at this;exact this,Hb9.out⟩
    case round =>
      obtain ⟨l,k,b,rfl,hkn,hlk,ho,hp,hbk,hmk,hbr⟩:=hrel
      have Ho:=zH ho;have Hp:=zH hp;have Hbk:=zH hbk;have Hmk:=zH hmk;have Hbr:=zH hbr
      have hlr:=t0a hbk
      clear ho hp hbk hmk hbr
      have hlen:=Ho.out
      obtain ⟨pa,ca,rfl⟩:=t0o Ho.out
      obtain ⟨a,o,cs,rfl,hal,-,hrange,hNC⟩:=HR.out.all hkn
      have hd:=HDD.out.at' k hkn
      obtain ⟨n0,hn0⟩ : ∃ n0,T.nodes[k] = n0:=⟨_,rfl⟩
      rw [hn0] at hNC hd
      obtain ⟨kd,lo_,hi_,tx,ks,fs,r0,r1⟩:=n0
      obtain ⟨p1,c1,p2,c2,rfl,hI,-⟩:=hNC
      simp only at hI
      have HI:=zH hI;have Hd:=zH hd;have Hn0:=zH hn0;have Hrange:=zH hrange
      have hbS:=Hs2.out
      have dk : decide (k < T.nodes.length) = true:=by simp [hkn]
      have hl67 : l.length ≤ 1000:=by omega
      clear hlen hI hd hn0 hrange
      obtain ⟨t0,t1⟩:=t0k ((Hbr.out.block _ (t0a HB.out)).trans HB.out)
      have HB7:=zH HB.out
      go_upto_region 5 with (at_builtin;go_loud (refine t0m rfl (.tmp 26) (.tmp 28) 22 rfl 3 (by kernel_rfl) t3m rfl (by decide) (by decide) (bw + 1) _ wr.heap.size [.int .i64 (k : Int)] (heap_alloc_new wr _) (Nat.le_trans hlr (by simp)) rfl (by intro u hu;simp at hu;subst hu;rfl) (.slice pa l.length ca) l.length (ic l) rfl (t0d Ho.out ((Below.refl _ _).alloc (Nat.le_refl _) _) (Nat.le_refl _)) (by omega) rfl ?_);intro v7 w7 ho7 hf7;have hb7:=(hf7.below (B:=bw + 1) (Nat.le_trans hlr (by simp)) (by simp) fun g hg=>(Ho.out.lt g hg).1);have Hb7:=zH (((Below.refl wr.heap.size wr).alloc (Nat.le_refl _) (.cells #[.int .i64 (k : Int)] 3)).mono hlr |>.trans hb7);have Ho7:=zH ho7;clear ho7 hf7 hb7)
      clear t0 t1
      have hB7:=(Hb7.out.block _ (by omega)).trans ((Hbr.out.block _ (t0a HB.out)).trans HB.out)
      obtain ⟨t0,t1⟩:=t0k hB7
      have hbk7:=(Hb7.out.block bw (by omega)).trans Hbk.out
      have Hbr7:=zH (Hbr.out.trans (Hb7.out.mono (by omega)))
      have hrg:=Hrange.out _ (Hb.out.step Hbr7.out)
      have q0:=hrg 0 _ rfl;have q1:=hrg 1 _ rfl;have q2:=hrg 2 _ rfl;have q3:=hrg 3 _ rfl;have q4:=hrg 4 _ rfl;have q5:=hrg 5 _ rfl;have q6:=hrg 6 _ rfl;have q7:=hrg 7 _ rfl
      simp only [Nat.add_zero] at q0
      have HB7:=zH hB7;have Hbk7:=zH hbk7
      have hlw7 : bw + 1 ≤ w7.heap.size:=t0a hbk7
      clear hrg hB7 hbk7
      go_upto_region 6 with fail
      have hN8:=heap_alloc_new w7 (.cells #[.int .i64 kd,.int .i64 lo_,.int .i64 hi_,.string tx,.slice p1 ks.length c1,.slice p2 fs.length c2,.int .i64 r0,.int .i64 r1] 48)
      have hb8 : Below w7.heap.size w7 (w7.alloc (.cells #[.int .i64 kd,.int .i64 lo_,.int .i64 hi_,.string tx,.slice p1 ks.length c1,.slice p2 fs.length c2,.int .i64 r0,.int .i64 r1] 48)):=(Below.refl _ _).alloc (Nat.le_refl _) _
      generalize w7.alloc (.cells #[.int .i64 kd,.int .i64 lo_,.int .i64 hi_,.string tx,.slice p1 ks.length c1,.slice p2 fs.length c2,.int .i64 r0,.int .i64 r1] 48) = w8b at *
      have Hbr8:=zH (Hbr7.out.step hb8)
      have Ho8:=zH (t0d Ho7.out hb8 (Nat.le_refl _))
      have HB8:=zH ((hb8.block _ (t0a HB7.out)).trans HB7.out)
      have Hbk8:=zH ((hb8.block _ (t0a Hbk7.out)).trans Hbk7.out)
      have HN8:=zH hN8
      have HI8:=zH (HI.out.below (Hb.out.step Hbr8.out))
      obtain ⟨⟨n0,n1,n2,n3⟩,n4,n5,n6,n7⟩:=t0x hN8
      obtain ⟨t0',t1'⟩:=t0k HB8.out
      have hbn:=t0a hN8
      have hbn2 : bw + 1 ≤ w7.heap.size:=hlw7
      generalize w7.heap.size = bn at *
      clear hN8 hb8 t0 t1 q0 q1 q2 q3 q4 q5 q6 q7
      have hmem:=Hmk.out
      rw [t7t Hw.out V hkn,Hn0.out] at hmem
      have hkn' : (T.node (k : Int)).kids = ks:=by rw [T.node_at hkn,Hn0.out]
      have Hkn':=zH hkn'
      have hedge : ∀ x ∈ ks,0 ≤ x ∧ x < (T.nodes.length : Int):=fun x hx=>Hd.out.edges x (by unfold t1s;simp [hx])
      have Hedge:=zH hedge
      have hbool : T.node (k : Int) = ⟨kd,lo_,hi_,tx,ks,fs,r0,r1⟩:=by rw [T.node_at hkn,Hn0.out]
      have Hbool:=zH hbool
      clear hkn' hedge hbool
      by_cases h18 : kd = 18
      · subst h18
        have hk1 : 0 < ks.length:=by have:=Hd.out.kind;simp [kindN] at this;omega
        have d0 : decide (0 < ks.length) = true:=by simp [hk1]
        obtain ⟨-,a2,o2,rfl,hab2,z0⟩:=HI8.out.at hk1
        simp only [Nat.add_zero] at z0
        have hmj : mem T V ks[0] = !(!b):=by
          simp [memS] at hmem
          rw [show ks[0] = ks.getD 0 0 by simp [hk1]]
          simpa using hmem
        have hjn2:=Hedge.out _ (List.getElem_mem hk1)
        have hjl:=Hd.out.later rfl _ (List.getElem_mem hk1)
        have hpn : PQ T ((l ++ [(k : Int)]) ++ [ks[0]]):=Hp.out.push hkn (by rw [Hkn'.out];exact List.getElem_mem _)
        generalize ks[0] = kj at *
        obtain ⟨j,rfl⟩ : ∃ j : Nat,kj = (j : Int):=⟨kj.toNat,by omega⟩
        have hjn : j < T.nodes.length:=by omega
        have hkj : k < j:=by simpa using hjl
        have Hpn:=zH hpn;have Hmj:=zH hmj
        have zb : w8b.cell? ⟨bw,0,none⟩ = some (.bool b):=by simp [World.cell?,Hbk8.out]
        have zf : w8b.frozen? ⟨bw,0,none⟩ = false:=by simp [World.frozen?,Hbk8.out]
        have HU:=zH (show Upd bw (.cells #[.bool (!b)] 4) w8b _ from Upd.cast (Upd.set (i:=0) (v:=.bool (!b)) (Upd.drew (Upd.refl Hbk8.out))) rfl)
        clear hmem hpn hmj hjn2 hjl
        go_wp2_with (first
          | (with_reducible refine rg ?_)
          | (with_reducible refine fo ?_))
        exact ⟨⟨l ++ [(k : Int)],j,!b,by first | rfl | (congr 1),hjn,by simp;omega,by rw [List.length_append,t6r];exact t1q Ho8.out HU.out (by omega),Hpn.out,HU.out.blk,Hmj.out,Hbr8.out.trans (HU.out.below (by omega))⟩,by simp [intOf];omega⟩
      · by_cases h67 : kd = 16 ∨ kd = 17
        · have hk1 : 1 ≤ ks.length:=by have:=Hd.out.kind;rcases h67 with rfl | rfl <;> (simp [kindN] at this;omega)
          have Hany:=zH (show ks.any (fun x=>mem T V x != b) = true by
            rcases h67 with rfl | rfl
            · exact tjw (by simpa [memS] using hmem) hk1
            · exact tjx (by simpa [memS] using hmem) hk1)
          have hb7 : (⟨kd,lo_,hi_,tx,ks,fs,r0,r1⟩ : TN).bool = true:=by rcases h67 with rfl | rfl <;> rfl
          have Hb7':=zH hb7
          have hvs8:=tjv (HV.out.below (Hb.out.step Hbr8.out))
          obtain ⟨dx,hvs8⟩:=hvs8
          have Hix:=zH (tdv T V ks w8b (.slice p1 ks.length c1) w.heap.size (w.heap.size + 1) bw b HI8.out (by have:=Hd.out.kids;simp at this;omega) ⟨dx,_,_,_,_,_,_,_,(Hbr8.out.block _ (t0a HA.out)).trans HA.out,hvs8⟩ ⟨_,_,HB8.out,HT.out.below (Hb.out.step Hbr8.out)⟩ Hbk8.out (fun x hx=>tbn Hw.out hvv (has_iff.2 (Hedge.out x hx))))
          clear hmem hb7 hvs8
          rcases h67 with rfl | rfl
          · go_wp2_with (go_at_call 36;refine Hix.out.mono ?_;rintro e wx ⟨i,rfl,hi,hk',hbx⟩;have hi0 : 0 ≤ i:=(by have h:=hi;rw [Hany.out] at h;simpa using h);obtain ⟨m,rfl,hm,hne⟩:=hk' hi0;have hIx:=HI8.out.below hbx;obtain ⟨-,a2,o2,rfl,hab2,z0⟩:=hIx.at hm;have dm : decide (m < ks.length) = true:=(by simp [hm]);have hmj : mem T V ks[m] = !b:=thj hne;have hjn2:=Hedge.out _ (List.getElem_mem hm);have hjl:=Hd.out.later Hb7'.out _ (List.getElem_mem hm);have hpn : PQ T ((l ++ [(k : Int)]) ++ [ks[m]]):=Hp.out.push hkn (by rw [Hkn'.out];exact List.getElem_mem _);generalize ks[m] = kj at *;obtain ⟨j,rfl⟩ : ∃ j : Nat,kj = (j : Int):=⟨kj.toNat,by omega⟩;have hjn : j < T.nodes.length:=(by omega);have hkj : k < j:=(by simpa using hjl);have Hpn:=zH hpn;have Hmj:=zH hmj;have Hbx:=zH hbx;clear n4;obtain ⟨⟨-,-,-,-⟩,n4,-,-,-⟩:=t0x ((hbx.block _ (t0a HN8.out)).trans HN8.out);clear hi hk' hi0 hne hIx hmj hjn2 hjl hpn hbx)
            exact ⟨⟨l ++ [(k : Int)],j,b,by first | rfl | (congr 1),hjn,by simp;omega,by rw [List.length_append,t6r];exact t0d Ho8.out Hbx.out (Nat.le_refl _),Hpn.out,(Hbx.out.block _ (t0a Hbk8.out)).trans Hbk8.out,Hmj.out,Hbr8.out.step Hbx.out⟩,by simp [intOf];omega⟩
          · go_wp2_with (go_at_call 36;refine Hix.out.mono ?_;rintro e wx ⟨i,rfl,hi,hk',hbx⟩;have hi0 : 0 ≤ i:=(by have h:=hi;rw [Hany.out] at h;simpa using h);obtain ⟨m,rfl,hm,hne⟩:=hk' hi0;have hIx:=HI8.out.below hbx;obtain ⟨-,a2,o2,rfl,hab2,z0⟩:=hIx.at hm;have dm : decide (m < ks.length) = true:=(by simp [hm]);have hmj : mem T V ks[m] = !b:=thj hne;have hjn2:=Hedge.out _ (List.getElem_mem hm);have hjl:=Hd.out.later Hb7'.out _ (List.getElem_mem hm);have hpn : PQ T ((l ++ [(k : Int)]) ++ [ks[m]]):=Hp.out.push hkn (by rw [Hkn'.out];exact List.getElem_mem _);generalize ks[m] = kj at *;obtain ⟨j,rfl⟩ : ∃ j : Nat,kj = (j : Int):=⟨kj.toNat,by omega⟩;have hjn : j < T.nodes.length:=(by omega);have hkj : k < j:=(by simpa using hjl);have Hpn:=zH hpn;have Hmj:=zH hmj;have Hbx:=zH hbx;clear n4;obtain ⟨⟨-,-,-,-⟩,n4,-,-,-⟩:=t0x ((hbx.block _ (t0a HN8.out)).trans HN8.out);clear hi hk' hi0 hne hIx hmj hjn2 hjl hpn hbx)
            exact ⟨⟨l ++ [(k : Int)],j,b,by first | rfl | (congr 1),hjn,by simp;omega,by rw [List.length_append,t6r];exact t0d Ho8.out Hbx.out (Nat.le_refl _),Hpn.out,(Hbx.out.block _ (t0a Hbk8.out)).trans Hbk8.out,Hmj.out,Hbr8.out.step Hbx.out⟩,by simp [intOf];omega⟩
        · have e18 : (kd == 18) = false:=by simp [h18]
          have e16 : (kd == 16) = false:=by simp;omega
          have e17 : (kd == 17) = false:=by simp;omega
          have Hnb:=zH (show (T.node (k : Int)).bool = false by rw [Hbool.out];simp [TN.bool];omega)
          clear hmem h18 h67
          go_wp2
          go_ret
          exact ⟨_,l ++ [(k : Int)],rfl,by rw [List.length_append,t6r];exact tbs Ho8.out (by omega),by simp;omega,fun h=>(by rw [Hr.out] at h;cases h),fun _=>⟨Hp.out,k,by simp,hkn,Hnb.out⟩,Hb.out.step Hbr8.out⟩
end Go.Proofs.YtjgldaaofdpcgaaGreat
namespace Go.Proofs.YtjgldaaofdpcgaaGreat
open Go.RowKit Go.Ident
set_option maxRecDepth 100000
theorem thk {n : TN} {k : Int} (h : k ∈ n.kids) : t3l n k = true:=by
  unfold t3l
  rw [show (n.kids.any fun x=>decide (x = k)) = true from List.any_eq_true.2 ⟨k,h,by simp⟩];rfl
theorem tjc {w : World} {p : Option Addr} {n c : Nat} {l : List Int} (h : IS w (.slice p n c) l) (hl : 0 < l.length) : ∃ a o,p = some ⟨a,o,none⟩ ∧ a < w.heap.size ∧ ∀ (i : Nat) (hi : i < l.length),w.cell? ⟨a,o + i,none⟩ = some (.int .i64 l[i]):=by
  obtain ⟨-,a,o,rfl,ha,-⟩:=h.at hl
  refine ⟨a,o,rfl,ha,fun i hi=>?_⟩
  obtain ⟨-,a',o',e,-,hc⟩:=h.at hi
  injection e with e
  injection e with e1 e2
  subst e1 e2
  exact hc
set_option maxHeartbeats 64000000 in
theorem tdw (p q : Option Addr) (c d : Nat) (L M : List Int) (w : World) (hL : IS w (.slice p L.length c) L) (hM : IS w (.slice q M.length d) M) : Calls Tryz.prog 7 #[.slice p L.length c,.slice q M.length d] w (ER true w):=by
  have hA:=heap_alloc_new w (.cells #[.slice p L.length c,.slice q M.length d] 22)
  have hb1 : Below w.heap.size w (w.alloc (.cells #[.slice p L.length c,.slice q M.length d] 22)):=(Below.refl _ _).alloc (Nat.le_refl _) _
  have Hsh:=zH (thb w.heap.size p q L.length M.length c d _ hA)
  have HL:=zH (hL.below hb1);have HM:=zH (hM.below hb1);have Hb1:=zH hb1
  have HW1:=zH (show ∃ w1,w.alloc (.cells #[.slice p L.length c,.slice q M.length d] 22) = w1 from ⟨_,rfl⟩)
  clear hA hb1 hL hM
  cases hsh : (decide (L.length ≤ 80) && decide (M.length ≤ 80)) with
  | false =>
    have hsh2:=Hsh.out
    rw [hsh] at hsh2
    have Hsh:=zH hsh2
    clear hsh hsh2
    go_enter Tryz.func7,Tryz.ntmps7
    go_wp2_with (first
      | (go_at_call 8;refine Hsh.out.mono ?_;rintro e w2 ⟨rfl,hb2⟩;have Hb2:=zH (Hb1.out.step hb2);clear hb2)
      | (go_at_call 10;refine (t9k w2).mono ?_;rintro e w3 ⟨rfl,hb3⟩;have Hb3:=zH (Hb2.out.step hb3);clear hb3))
    go_ret
    exact ⟨rfl,Hb3.out⟩
  | true =>
    have hsh2:=Hsh.out
    rw [hsh] at hsh2
    have Hsh:=zH hsh2
    have hl80 : L.length ≤ 80 ∧ M.length ≤ 80:=by simpa using hsh
    obtain ⟨hl80,hm80⟩:=hl80
    clear hsh hsh2
    go_enter Tryz.func7,Tryz.ntmps7
    go_upto_region 4 with (first
      | (go_at_call 8;refine Hsh.out.mono ?_;rintro e w2 ⟨rfl,hb2⟩;have HL2:=zH (HL.out.below hb2);have HM2:=zH (HM.out.below hb2);have Hb2:=zH (Hb1.out.step hb2);clear hb2)
      | (go_at_call 11;refine (thf p q c d L M w2 HL2.out HM2.out (by omega) (by omega)).mono ?_;rintro e w3 ⟨tv,T,v,V,n,B,rfl,ht,ho,hd,h1n,h7n,hv,hvv,hnn,hB,hb3⟩;obtain ⟨pT,cT,xs,rfl,ho⟩:=ho;obtain ⟨dv,cs,rfl,hv⟩:=hv;obtain ⟨x1,x2,x3,x4,x5,x6,x7,x8,rfl⟩:=hv.seven;have HT:=zH ht;have HO:=zH (show TOB w2.heap.size B w3 (.agg #[.slice pT T.nodes.length cT,.int .i64 T.root]) T from ⟨pT,cT,xs,rfl,ho⟩);have HD:=zH hd;have HV:=zH (show VW (we (lo B) w3) (.agg #[.int .i64 V.kind,.int .i64 V.num,.string V.text,.slice x1 V.kids.length x2,.slice x3 V.keys.length x4,.slice x5 V.ents.length x6,.slice x7 V.labels.length x8]) V from ⟨dv,_,rfl,hv⟩);have Hvv:=zH hvv;have Hnn:=zH hnn;have HB:=zH hB;have Hb3:=zH hb3;have H1n:=zH h1n;have H7n:=zH h7n;clear ht ho hd hv hvv hnn hB hb3 h1n h7n))
    have hbx:=t1f w3 (.cells #[.slice pT T.nodes.length cT,.int .i64 T.root] 31) (.cells #[.int .i64 V.kind,.int .i64 V.num,.string V.text,.slice x1 V.kids.length x2,.slice x3 V.keys.length x4,.slice x5 V.ents.length x6,.slice x7 V.labels.length x8] 28)
    obtain ⟨w5,e5,hT5,hV5,hb5⟩:=hbx
    rw [e5]
    have HT5:=zH hT5;have HV5:=zH hV5;have Hb5:=zH hb5
    have HDl:=zH HD.out.len
    clear e5 hT5 hV5 hb5
    have hw35 : w3.heap.size ≤ w5.heap.size:=Hb5.out.size
    have hn1 : 1 ≤ T.nodes.length:=by have:=HDl.out;have:=H1n.out;omega
    have hn7 : T.nodes.length ≤ 7:=by have:=HDl.out;have:=H7n.out;omega
    have HT3:=zH (HT.out.sub (t4b _ _));have HV3:=zH (HV.out.sub (t4b _ _))
    have HTS:=zH (HT3.out.below Hb5.out);have HVW:=zH (HV3.out.below Hb5.out)
    have Hw5:=zH (show Below w.heap.size w w5 from (Hb2.out.step Hb3.out).step Hb5.out)
    have hsz : SzT T:=dt_sz HD.out (by have:=H7n.out;omega)
    have Hex:=zH (tei T n HD.out H1n.out (by have:=H7n.out;omega) V Hvv.out (Nat.le_trans Hnn.out (by decide)) w5 _ _ HVW.out HTS.out hsz)
    have Hrm:=zH (fun (w' : World) (hb : Below w5.heap.size w5 w')=>tcu T V w' _ _ (HVW.out.below hb) (HTS.out.below hb) hsz)
    obtain ⟨t0,t1⟩:=t0k HT5.out
    obtain ⟨⟨f0,f1,f2,f3⟩,f4,f5,f6⟩:=t0j HV5.out
    generalize hbt : w3.heap.size = bt at *
    generalize hbv : bt + 1 = bv at *
    clear hbt hbv
    go_upto_region 5 with (go_at_call 18;refine Hex.out.mono ?_;rintro e w6 ⟨pv,l,rfl,ho,hll,hmt,hmf,hb6⟩;have Hb6:=zH hb6;clear t0 t1 f0 f1 f2 f3 f4 f5 f6;obtain ⟨t0,t1⟩:=t0k ((hb6.block _ (t0a HT5.out)).trans HT5.out);obtain ⟨⟨f0,f1,f2,f3⟩,f4,f5,f6⟩:=t0j ((hb6.block _ (t0a HV5.out)).trans HV5.out);have Ho:=zH ho;have Hll:=zH hll;have Hmt:=zH hmt;have Hmf:=zH hmf;clear ho hll hmt hmf hb6)
    cases hm : mof T V T.root with
    | true =>
      have hl0:=Hmt.out hm
      subst hl0
      have hr:=Hrm.out w6 Hb6.out
      rw [hm] at hr
      have Hr:=zH hr
      obtain ⟨pp,cp,rfl⟩:=t0o Ho.out
      clear hm hr
      go_wp2_with (first
        | (go_at_call 16;refine Hr.out.mono ?_;rintro e w7 ⟨rfl,hb7⟩;have Hb7:=zH (Hb6.out.step hb7);clear hb7)
        | (go_at_call 10;refine (t9k w7).mono ?_;rintro e w8 ⟨rfl,hb8⟩;have Hb8:=zH (Hw5.out.step (Hb7.out.step hb8));clear hb8))
      go_ret
      exact ⟨rfl,Hb8.out⟩
    | false =>
      obtain ⟨⟨hh,hp⟩,jl,hlast,hjl,hnb⟩:=Hmf.out hm
      have hr:=Hrm.out w6 Hb6.out
      rw [hm] at hr
      have Hr:=zH hr
      have hlp : 0 < l.length:=by cases l with | nil=>cases hh | cons x r=>simp
      have h0 : l[0]'hlp = T.root:=by
        rw [List.head?_eq_getElem?,List.getElem?_eq_getElem hlp] at hh;exact Option.some.inj hh
      have hla : l[l.length - 1]'(by omega) = (jl : Int):=by
        rw [List.getLast?_eq_getElem?,List.getElem?_eq_getElem (by omega)] at hlast;exact Option.some.inj hlast
      have Hp:=zH hp;have H0:=zH h0;have Hla:=zH hla;have Hnb:=zH hnb;have Hlp:=zH hlp
      have his:=tju Ho.out
      obtain ⟨pp,cp,rfl⟩:=t0o Ho.out
      obtain ⟨a,o,rfl,ha,hcell⟩:=tjc his hlp
      have Hcell:=zH (fun (w' : World) (hb : Below w6.heap.size w6 w') (i : Nat) (hi : i < l.length)=>(hb.cell (p:=⟨a,o + i,none⟩) ha).trans (hcell i hi))
      have Ha:=zH ha
      obtain ⟨m,hlm⟩ : ∃ m,l.length = m + 1:=⟨l.length - 1,by omega⟩
      have Hlm:=zH hlm
      have hm7 : m ≤ 7:=by have:=Hll.out;have:=H7n.out;omega
      rw [hlm]
      clear hm hh hp hlast hnb hr h0 hla his hcell ha hlm
      go_upto_region 7 with (go_at_call 16;refine Hr.out.mono ?_;rintro e w7 ⟨rfl,hb7⟩;have Hb7:=zH hb7;have Hb57:=zH (Hb6.out.step hb7);clear t0 t1 f0 f1 f2 f3 f4 f5 f6;obtain ⟨t0,t1⟩:=t0k ((Hb57.out.block _ (t0a HT5.out)).trans HT5.out);obtain ⟨⟨f0,f1,f2,f3⟩,f4,f5,f6⟩:=t0j ((Hb57.out.block _ (t0a HV5.out)).trans HV5.out);clear hb7)
      have z0:=Hcell.out w7 Hb7.out 0 Hlp.out
      rw [H0.out,Nat.add_zero] at z0
      have e0 : ((m : Int) + 1 == 0) = false:=by simp;omega
      have e0' : decide (0 < m + 1) = true:=by simp
      go_upto_region 9 with (first
        | (with_reducible refine rg ?_)
        | (with_reducible refine fo ?_))
      clear z0 e0 e0'
      have hdr : Below w7.heap.size w7 w7.drew:=(Below.refl _ _).drew
      have Hdr:=zH hdr
      clear hdr
      go_wp2
      go_loopw [8] (fun iv wr=>∃ i : Nat,iv = .int .i64 ((i : Int) + 1) ∧ i ≤ m ∧ Below w7.heap.size w7 wr) (fun iv _=>(m + 1) - (intOf iv).toNat)
      case atStart=>exact ⟨0,rfl,by omega,Hdr.out⟩
      case round =>
        obtain ⟨i,rfl,him,hbr⟩:=hrel
        have Hbr:=zH hbr
        have Hb5r:=zH (Hb57.out.step hbr)
        have Hb6r:=zH (Hb7.out.step hbr)
        clear t0 t1 f0 f1 f2 f3 f4 f5 f6 hbr
        have HTr:=zH ((Hb5r.out.block _ (t0a HT5.out)).trans HT5.out)
        obtain ⟨t0,t1⟩:=t0k HTr.out
        by_cases hie : i < m
        rotate_left
        · obtain rfl : i = m:=by omega
          have d11 : decide (i + 1 < i + 1) = false:=by simp
          have zl:=Hcell.out wr Hb6r.out (l.length - 1) (by have:=Hlm.out;omega)
          rw [Hla.out,show l.length - 1 = i by have:=Hlm.out;omega] at zl
          obtain ⟨an,on,cn,rfl,han,-,hrange,hNC⟩:=(ts_rw HTS.out).all hjl
          have hrg:=hrange _ Hb5r.out
          obtain ⟨x,hx⟩ : ∃ x,T.nodes[jl] = x:=⟨_,rfl⟩
          rw [hx] at hNC
          have hxb : x.bool = false:=by have:=Hnb.out;rwa [T.node_at hjl,hx] at this
          obtain ⟨p1,c1,p2,c2,rfl,-,-⟩:=hNC
          have q0:=hrg 0 _ rfl
          rw [Nat.add_zero] at q0
          have dj : decide (jl < T.nodes.length) = true:=by simp [hjl]
          have dj2 : decide (T.nodes.length ≤ jl) = false:=by simp;omega
          have dj3 : decide ((jl : Int) < 0) = false:=by simp
          simp [TN.bool] at hxb
          have n16 : (x.kind != 16) = true:=by simp [hxb]
          have n17 : (x.kind != 17) = true:=by simp [hxb]
          have n18 : (x.kind != 18) = true:=by simp [hxb]
          have m16 : (x.kind == 16) = false:=by simp [hxb]
          have m17 : (x.kind == 17) = false:=by simp [hxb]
          have m18 : (x.kind == 18) = false:=by simp [hxb]
          clear hrg hrange hx hxb
          go_wp2_with (go_at_call 10;refine (t9k wr).mono ?_;rintro e w8 ⟨rfl,hb8⟩;have Hb8:=zH (Hw5.out.step (Hb5r.out.step hb8));clear hb8)
          go_ret
          exact ⟨rfl,Hb8.out⟩
        have d11 : decide (i + 1 < m + 1) = true:=by simp [hie]
        have d12 : decide (i < m) = true:=by simp [hie]
        have hil : i + 1 < l.length:=by have:=Hlm.out;omega
        obtain ⟨j,hj1,hj2,hj3⟩:=Hp.out i hil
        have zi:=Hcell.out wr Hb6r.out i (by omega)
        have zk:=Hcell.out wr Hb6r.out (i + 1) hil
        rw [hj1] at zi
        obtain ⟨an,on,cn,rfl,han,-,hrange,hNC⟩:=(ts_rw HTS.out).all hj2
        have hrg:=hrange _ Hb5r.out
        have Hrange:=zH hrange
        obtain ⟨x,hx⟩ : ∃ x,T.nodes[j] = x:=⟨_,rfl⟩
        have hd:=HD.out.at' j hj2
        rw [T.node_at hj2] at hj3
        rw [hx] at hNC hj3 hd
        have HNC:=zH hNC
        obtain ⟨p1,c1,p2,c2,rfl,-,-⟩:=hNC
        have Hlk:=zH (thk hj3)
        have Hcl:=zH (fun (w' : World) (hb : Below w5.heap.size w5 w')=>thi x l[i + 1] w' _ (HNC.out.below hb) (Nat.le_trans hd.kids (by decide)) (Nat.le_trans hd.fields (by decide)))
        generalize l[i + 1] = lk at *
        have q0:=hrg 0 _ rfl;have q1:=hrg 1 _ rfl;have q2:=hrg 2 _ rfl;have q3:=hrg 3 _ rfl;have q4:=hrg 4 _ rfl;have q5:=hrg 5 _ rfl;have q6:=hrg 6 _ rfl;have q7:=hrg 7 _ rfl
        rw [Nat.add_zero] at q0
        have dj : decide (j < T.nodes.length) = true:=by simp [hj2]
        have dj2 : decide (T.nodes.length ≤ j) = false:=by simp;omega
        have dj3 : decide ((j : Int) < 0) = false:=by simp
        have d13 : decide (i < m + 1) = true:=by simp;omega
        have Y1:=zH (show wr.drew.cell? ⟨a,o + i,none⟩ = _ from zi)
        have Y2:=zH (show wr.drew.cell? ⟨a,o + (i + 1),none⟩ = _ from zk)
        have Y3:=zH (show wr.drew.cell? ⟨bt,0,none⟩ = _ from t0)
        have Y4:=zH (show wr.drew.cell? ⟨an,on + j * 8,none⟩ = _ from q0)
        have hla : a < wr.heap.size:=Nat.lt_of_lt_of_le Ha.out Hb6r.out.size
        have hlb : bt < wr.heap.size:=t0a HTr.out
        have hln : an < wr.heap.size:=Nat.lt_of_lt_of_le han Hb5r.out.size
        have Hcl2:=zH (by have:=Hcl.out wr.drew Hb5r.out.drew;rwa [Hlk.out] at this : Calls Tryz.prog 19 #[.agg #[.int .i64 x.kind,.int .i64 x.lo,.int .i64 x.hi,.string x.text,.slice p1 x.kids.length c1,.slice p2 x.fields.length c2,.int .i64 x.rest0,.int .i64 x.rest1],.int .i64 lk] wr.drew (ER true wr.drew))
        clear hj1 hj3 hd hrg hrange hx
        obtain ⟨wq,hwq⟩ : ∃ wq : World,wq = wr:=⟨_,rfl⟩
        subst hwq
        go_wp2_with (first
          | ((with_reducible refine Lex.t0w ?_);refine fE (by repeat first | exact LexK.t0t | refine LexK.t0p rfl ?_ | refine LexK.t0q (by decide +kernel) ?_ | refine LexK.t0c rfl (by exact hla) Y1.out ?_ | refine LexK.t0c rfl (by exact hla) Y2.out ?_ | refine LexK.t0c rfl (by exact hlb) Y3.out ?_ | refine LexK.t0c rfl (by exact hln) Y4.out ?_) ?_)
          | ((with_reducible refine Lex.t0r ?_);refine LexK.t0g (fun x=>x < wq.heap.size) (by kernel_rfl) (by decide +kernel) ?_)
          | (with_reducible first | refine qH ?_ | refine LexK.t0s ?_ | refine LexK.t0v ?_)
          | ((with_reducible refine Lex.t1b ?_);first | (refine LexK.t0e hex8.out ?_) | (refine LexK.t0e (LexK.Ext.alloc _ _) ?_) | (refine LexK.t0e (LexK.Ext.refl _) ?_))
          | (go_at_call 19;refine Hcl2.out.mono ?_;rintro e w8 ⟨rfl,hb8⟩;have hex8:=zH (LexK.Ext.of_below (Kp:=fun x=>x < wq.heap.size) hb8 (Nat.le_refl _));have Hb8:=zH ((Below.refl wq.heap.size wq).drew.trans hb8);clear hb8))
        exact ⟨⟨i + 1,by first | rfl | go_num | (congr 1),by omega,Hbr.out.step Hb8.out⟩,by simp [intOf];omega⟩
end Go.Proofs.YtjgldaaofdpcgaaGreat
namespace Go.Proofs.YtjgldaaofdpcgaaGreat.memberExplains
open Go.ChangeShapes Go.WideShapes Go.ChangeAt Go.RowKit
open Go.ChangeMaps (open_string shut_string)
set_option linter.unusedVariables false

theorem own : ownKnob Tryz.prog.godebug = none:=by kernel_rfl
theorem tf4 : laidOutB Tryz.prog = true:=by kernel_rfl
set_option maxRecDepth 100000 in
theorem tij (H : Type) (enc : TypeId × Value → H) (W : World) (base : Nat) (args : Array Value) (ds gs : List (DataW H)) (before : List MemPlace)
    (hval0 : ∀ (j : Nat) t v,Tryz.f7.params[j]? = some t → args[j]? = some v → Value.okWide Tryz.prog W .any base t v)
    (hW : DataW.Whole enc Tryz.prog Tryz.f7.params.toList Rows.memberExplainsSpec.vars false W args.toList ds gs before) :
    Calls Tryz.prog 7 args W fun e W'=>∃ v,e = .returned v ∧ Rows.memberExplainsSpec.post enc Tryz.prog Tryz.f7 false true false false W args v W':=by
  have hval : ∀ (j : Nat) t v,Tryz.f7.params[j]? = some t → args[j]? = some v → Value.okWide Tryz.prog W .any base t v:=hval0
  have hW':=hW
  obtain ⟨p,q,hA0,hV,rfl,hfz,hnd⟩:=hW
  have hA : DataW.TrodAll enc Tryz.prog W 0 (fun _=>true) true Tryz.f7.params.toList args.toList ds p:=hA0
  rw [Tryz.params7] at hA hval
  obtain ⟨v0,vs0,d0,ds0,p0,q0,hargs,rfl,rfl,h0,r0⟩:=trodAll_cons hA
  obtain ⟨v1,vs1,d1,ds1,p1,q1,rfl,rfl,rfl,h1,r1⟩:=trodAll_cons r0
  obtain ⟨rfl,rfl,rfl⟩:=trodAll_nil r1
  obtain rfl : args = #[v0,v1]:=by cases args;simp_all
  obtain ⟨rfl,rfl⟩:=trodVars_none hV
  clear hA0 hval0
  have k0:=h0
  have lt0 : ∀ x ∈ p0,x.block < W.heap.size:=by obtain ⟨m,hm⟩:=k0;exact DataW.trod_lt m _ _ _ hm
  have k1:=h1
  have lt1 : ∀ x ∈ p1,x.block < W.heap.size:=by obtain ⟨m,hm⟩:=k1;exact DataW.trod_lt m _ _ _ hm
  obtain ⟨s0,len0,cap0,rfl⟩:=okWide_slice Tryz.underlying22 (hval 0 22 v0 rfl rfl)
  obtain ⟨fuel0,hf0⟩:=h0
  obtain ⟨s1,len1,cap1,rfl⟩:=okWide_slice Tryz.underlying22 (hval 1 22 v1 rfl rfl)
  obtain ⟨fuel1,hf1⟩:=h1
  obtain ⟨L0,hL0,hl0,hw0⟩:=tem hf0
  obtain ⟨L1,hL1,hl1,hw1⟩:=tem hf1
  obtain ⟨p0',c0',e0,-⟩:=id hL0
  obtain ⟨p1',c1',e1,-⟩:=id hL1
  injection e0 with e01 e02 e03
  injection e1 with e11 e12 e13
  subst e01 e02 e03 e11 e12 e13
  refine ((tdw _ _ _ _ L0 L1 W hL0 hL1 : Calls Tryz.prog 7 _ W _)).mono fun e W' ⟨he,bel⟩=>?_
  subst he
  exact ⟨_,rfl,_,_,_,[],_,[],hW',trodAll_mk1 (shut_bool Tryz.underlying4 _),(trodAll_cons_mk (Below.trod tf4 (by kernel_rfl) (of_decide_eq_true (by kernel_rfl)) k0 bel lt0) (trodAll_cons_mk (Below.trod tf4 (by kernel_rfl) (of_decide_eq_true (by kernel_rfl)) k1 bel lt1) trodAll_mk0)),rfl,bel.frame _,fun h=>by cases h⟩
set_option maxRecDepth 100000 in
theorem tjy (os : Os) (started : os.Started) (H : Type) (enc : TypeId × Value → H) :
    ReturnsInHanded {} Tryz.checked os 7 .any (Rows.memberExplainsSpec.pre6 enc Tryz.prog Tryz.f7 Rows.memberExplainsRow.domain false) (Rows.memberExplainsSpec.post enc Tryz.prog Tryz.f7 false true false false):=by
  refine returnsInHanded_of_change (C:=Tryz.checked) own started (by kernel_rfl) Tryz.func7
    (ChangeSpec.witness6 (enc:=enc) (C:=Tryz.checked) false ⟨#[],#[.slice none 0 0,.slice none 0 0],[]⟩ 8 (by kernel_rfl) (by kernel_rfl) (by kernel_rfl) (by kernel_rfl)) ?_
  intro W base args ds gs before hval hW _ _
  exact tij H enc W base args ds gs before hval hW
theorem memberExplains_holds : Rows.MemberExplainsSaid :=
  OpenClaim.holds_of_wide 7 Tryz.f7 rfl rfl rfl rfl rfl rfl rfl ⟨rfl,rfl,rfl,rfl,rfl⟩ rfl rfl rfl rfl rfl (by kernel_rfl) Tryz.func7 (by kernel_rfl)
    (of_decide_eq_true (by kernel_rfl)) (by unfold Func.isWrapper;first | (rw [if_pos (by decide +kernel)];kernel_rfl) | (rw [if_neg (by decide +kernel)];exact ⟨rfl,rfl⟩))
    (fun os started H enc _=>tjy os started H enc)
end Go.Proofs.YtjgldaaofdpcgaaGreat.memberExplains
