/- Walks and plain facts for the laws of membership, for all values and types that the heap holds (texts C3). -/
import Derived.Test.YtjgldaaofdpcgaaGreatW03
import Derived.Test.YtjgldaaofdpcgaaGreatW41
set_option linter.unusedVariables false
set_option linter.unusedSimpArgs false
namespace Go.Proofs.YtjgldaaofdpcgaaGreat
open Go.RowKit Go.Ident
set_option maxRecDepth 100000
def L3f (W : World) (B : Nat) (v : Value) : Prop:=∃ (g : Nat) (a b c : Int),v = .slice (some ⟨g,0,none⟩) 3 3 ∧ B ≤ g ∧ W.heap[g]? = some (.cells #[.int .i64 a,.int .i64 b,.int .i64 c] 2)
theorem L3f.turn {W W' : World} {B : Nat} {v : Value} (h : L3f W B v) (hb : Below W.heap.size W W') : L3f W' B v:=by
  obtain ⟨g,a,b,c,h1,h2,h3⟩:=h;exact ⟨g,a,b,c,h1,h2,(hb.block g (t0a h3)).trans h3⟩
theorem tjg {B : Nat} (w : World) (a b c : Int) (hB : B ≤ w.heap.size) : L3f (we (lo B) (w.alloc (.cells #[.int .i64 a,.int .i64 b,.int .i64 c] 2))) B (.slice (some ⟨w.heap.size,0,none⟩) 3 3) :=
  ⟨w.heap.size,a,b,c,rfl,hB,(we_at (t1g B _ hB)).trans (heap_alloc_new w _)⟩
def PXf (W : World) (B : Nat) (v : Value) : Prop:=∃ (g m : Nat) (x : Int),v = .pointer (some ⟨g,m,none⟩) ∧ B ≤ g ∧ W.cell? ⟨g,m,none⟩ = some (.int .i64 x)
theorem PXf.turn {W W' : World} {B : Nat} {v : Value} (h : PXf W B v) (hb : Below W.heap.size W W') : PXf W' B v:=by
  obtain ⟨g,m,x,h1,h2,h3⟩:=h;exact ⟨g,m,x,h1,h2,t0b hb h3⟩
theorem tk0 {W : World} {B g m : Nat} {a b c : Int} (h : W.heap[g]? = some (.cells #[.int .i64 a,.int .i64 b,.int .i64 c] 2)) (hB : B ≤ g) (hm : m < 3) : PXf W B (.pointer (some ⟨g,m,none⟩)):=by
  rcases (show m = 0 ∨ m = 1 ∨ m = 2 by omega) with rfl | rfl | rfl
  · exact ⟨g,0,a,rfl,hB,by simp [World.cell?,h]⟩
  · exact ⟨g,1,b,rfl,hB,by simp [World.cell?,h]⟩
  · exact ⟨g,2,c,rfl,hB,by simp [World.cell?,h]⟩
set_option maxHeartbeats 64000000 in
theorem tjh (T : Ty) (tv : Value) (S : SD) (kn : Nat) (h : Int) (n : TN) (h1 : 1 ≤ h) (hh : h ≤ 1000) (hkn : kn < T.nodes.length) (hnode : T.nodes[kn] = n) (hkd : n.kind = 3) (w : World) (hS : SRC S w) (hT : TB S T tv w) : Calls Tryz.prog 40 #[.pointer (some ⟨S.b,0,none⟩),tv,.int .i64 (kn : Int),.int .i64 h] w (GV (fun V=>V.nodes ≤ 1 ∧ V.labels = []) S w):=by
  have hltS:=hS.lt
  obtain ⟨pT,cT,rfl,hR,-⟩:=id hT
  obtain ⟨a,o,cs,rfl,hal,-,hrange,hNC⟩:=hR.all hkn
  rw [hnode] at hNC
  obtain ⟨kd,lo_,hi_,tx,ks,fs,r0,r1⟩:=n
  obtain ⟨p1,c1,p2,c2,rfl,hI,hF⟩:=hNC
  simp only at hI hF hrange
  obtain rfl : kd = 3:=hkd
  obtain ⟨w2,e9,hA,hC,hb⟩:=t1f w (.cells #[.slice (some ⟨a,o,none⟩) T.nodes.length cT,.int .i64 T.root] 31) (.cells #[.int .i64 0,.int .i64 0,.string ⟨#[]⟩,.slice none 0 0,.slice none 0 0,.slice none 0 0,.slice none 0 0] 28)
  have hs2 : w2.heap.size = w.heap.size + 2:=by rw [← e9];simp
  obtain ⟨w4,e8,hB4,hV4,hb4⟩:=t1f w2 (.cells #[.int .i64 3,.int .i64 lo_,.int .i64 hi_,.string tx,.slice p1 ks.length c1,.slice p2 fs.length c2,.int .i64 r0,.int .i64 r1] 48) (.cells #[.int .i64 0,.int .i64 0,.string ⟨#[]⟩,.slice none 0 0,.slice none 0 0,.slice none 0 0,.slice none 0 0] 28)
  have hs4 : w4.heap.size = w2.heap.size + 2:=by rw [← e8];simp
  have E8:=zH e8;clear e8
  have H2:=zH ((SR.refl hS).app hb)
  have H4:=zH (H2.out.step hb4)
  have hrg:=hrange _ H2.out.bel
  have a0:=t0l (hrg 0 _ rfl);have a1:=t0l (hrg 1 _ rfl);have a2:=t0l (hrg 2 _ rfl);have a3:=t0l (hrg 3 _ rfl)
  have a4:=t0l (hrg 4 _ rfl);have a5:=t0l (hrg 5 _ rfl);have a6:=t0l (hrg 6 _ rfl);have a7:=t0l (hrg 7 _ rfl)
  simp only [Nat.add_zero] at a0
  have HT:=zH (hT.sr H4.out);have HT0:=zH hT;have HI0:=zH hI
  have HI:=zH (show IS (wo S.b w4) (.slice p1 ks.length c1) ks from hI.below H4.out.bel)
  have HF:=zH (show Rw (wo S.b w4) p2 c2 4 fs FC from hF.below H4.out.bel fun _ _ _ h=>h)
  have hNC : NC (wo S.b w4) ⟨3,lo_,hi_,tx,ks,fs,r0,r1⟩ [.int .i64 3,.int .i64 lo_,.int .i64 hi_,.string tx,.slice p1 ks.length c1,.slice p2 fs.length c2,.int .i64 r0,.int .i64 r1]:=⟨p1,c1,p2,c2,rfl,HI.out,HF.out⟩
  have HNC:=zH hNC
  rw [hs2] at hB4 hV4
  have HB4:=zH hB4;have HV4:=zH hV4
  have HA4:=zH ((hb4.block w.heap.size (by omega)).trans hA)
  have HO4:=zH ((hb4.block (w.heap.size + 1) (by omega)).trans hC)
  obtain ⟨g0,g1⟩:=t0k hA
  have Hs4:=zH (show w4.heap.size = (w.heap.size + 4) by omega)
  have Hb:=zH (show (w.heap.size + 1) ≠ S.b by omega)
  have HEx:=zH (show lo (w.heap.size + 4) (w.heap.size + 1) = true by simp [lo])
  have HEl:=zH (show ∀ k,k < w.heap.size → lo (w.heap.size + 4) k = true from fun k hk=>by simp [lo];omega)
  have dk : decide (T.nodes.length ≤ kn) = false:=by simp;omega
  have dk2 : decide (kn < T.nodes.length) = true:=by simp [hkn]
  have dk3 : decide ((kn : Int) < 0) = false:=by simp
  have dh : decide (h ≤ 0) = false:=by simp;omega
  clear hB4 hV4 hA hC hb hb4 hR hrange hrg hI hF hNC hS hT hnode
  go_enter Tryz.func40,Tryz.ntmps40
  go_upto_region 1 with fail
  try rw [e9]
  go_upto_region 5 with fail
  (try have e8:=E8.out)
  try rw [hs2]
  try rw [e8]
  try rw [hs2]
  clear e9 e8 E8 g0 g1 a0 a1 a2 a3 a4 a5 a6 a7 dk dk3 dh hs2 hs4
  obtain ⟨⟨n0,n1,n2,n3⟩,n4,n5,n6,n7⟩:=t0y HB4.out
  have hw4 : (w.heap.size + 4) ≤ w4.heap.size:=by have:=Hs4.out;omega
  have Hsrc:=zH H4.out.src
  have Hbo:=zH (show (w.heap.size + 1) ≠ S.b by omega)
  go_upto_region 7 with fail
  clear n0 n1 n2 n3 n4 n5 n6 n7
  obtain ⟨fr,hfr⟩ : ∃ fr : Value → Value → Value → Value → Value → Value → Value → Value → Value → Value → Value → Value → Value → Value → Value → Value → Value → Value → Value → Value → Act,fr = fun s38 s39 s40 s41 s42 s43 s44 s45 s46 s47 s48 s49 s50 s51 s52 s53 s54 s55 s56 s57=>⟨#[Value.pointer (some { block:=S.b,off:=0 }),Value.agg #[Value.slice (some { block:=a,off:=o }) T.nodes.length cT,Value.int IntKind.i64 T.root],Value.int IntKind.i64 ↑kn,Value.int IntKind.i64 h,undef,Value.pointer (some { block:=w.heap.size,off:=0 }),undef,undef,Value.pointer (some { block:=w.heap.size + 1,off:=0 }),Value.pointer (some { block:=w.heap.size + 2,off:=0 }),Value.pointer (some { block:=w.heap.size + 2 + 1,off:=0 }),undef,undef,Value.int IntKind.i64 h,Value.bool false,Value.bool false,Value.int IntKind.i64 ↑kn,Value.bool false,Value.bool false,Value.bool false,Value.int IntKind.i64 ↑kn,Value.pointer (some { block:=w.heap.size,off:=0 }),Value.slice (some { block:=a,off:=o }) T.nodes.length cT,Value.int IntKind.i64 ↑T.nodes.length,Value.bool false,Value.bool false,undef,undef,Value.pointer (some { block:=w.heap.size,off:=0 }),Value.slice (some { block:=a,off:=o }) T.nodes.length cT,Value.int IntKind.i64 ↑kn,Value.pointer (some { block:=a,off:=o + kn * 8 }),Value.agg #[Value.int IntKind.i64 3,Value.int IntKind.i64 lo_,Value.int IntKind.i64 hi_,Value.string tx,Value.slice p1 ks.length c1,Value.slice p2 fs.length c2,Value.int IntKind.i64 r0,Value.int IntKind.i64 r1],Value.agg #[Value.int IntKind.i64 0,Value.int IntKind.i64 0,Value.string { data:=#[] },Value.slice none 0 0,Value.slice none 0 0,Value.slice none 0 0,Value.slice none 0 0],Value.pointer (some { block:=w.heap.size + 2,off:=0 }),Value.int IntKind.i64 3,Value.bool true,Value.bool true,s38,s39,s40,s41,s42,s43,s44,s45,s46,s47,s48,s49,s50,s51,s52,s53,s54,s55,s56,s57,undef,undef,undef,undef,undef,undef,undef,undef,undef,undef,undef,undef,undef,undef,undef,undef,undef,undef,undef,undef,undef,undef,undef,undef,undef,undef,undef,undef,undef,undef,undef,undef,undef,undef,undef,undef,undef,undef,undef,undef,undef,undef,undef,undef,undef,undef,undef,undef,undef,undef,undef,undef,undef,undef,undef,undef,undef,undef,undef,undef,undef,undef,undef,undef,undef,undef,undef,undef,undef,undef,undef,undef,undef,undef,undef,undef,undef,undef,undef,undef,undef,undef,undef,undef,undef,undef,undef,undef,undef,undef,undef,undef,undef,undef,undef,undef,undef,undef,undef,undef,undef,undef,undef,undef,undef,undef,undef,undef,undef,undef,undef,undef,undef,undef,undef,undef,undef,undef,undef,undef,undef,undef,undef,undef,undef,undef,undef,undef,undef,undef,undef,undef,undef,undef,undef,undef,undef,undef,undef,undef,undef,undef,undef,undef,undef,undef,undef,undef,undef,undef,undef,undef,undef,undef,undef,undef,undef,undef,undef],[]⟩:=⟨_,rfl⟩
  obtain ⟨J,hJd⟩ : ∃ J : (Nat → Prop) → Act → World → Prop,J = fun (D : Nat → Prop) (ac : Act) (w' : World)=>(D 20 → (∀ i,i < 20 → D i) ∧ ∃ (s38 s39 s40 s41 s42 s43 s44 s45 s46 s47 s48 s49 s50 s51 s52 s53 s54 s55 s56 s57 : Value),ac = fr s38 s39 s40 s41 s42 s43 s44 s45 s46 s47 s48 s49 s50 s51 s52 s53 s54 s55 s56 s57 ∧ ∃ z : Int,w'.heap[(w.heap.size + 1)]? = some (.cells #[.int .i64 1,.int .i64 z,.string ⟨#[]⟩,.slice none 0 0,.slice none 0 0,.slice none 0 0,.slice none 0 0] 28) ∧ SR S w w') ∧ (¬ D 20 → ∃ (s38 s39 s40 s41 s42 s43 s44 s45 s46 s47 s48 s49 s50 s51 s52 s53 s54 s55 s56 s57 : Value),ac = fr s38 s39 s40 s41 s42 s43 s44 s45 s46 s47 s48 s49 s50 s51 s52 s53 s54 s55 s56 s57 ∧ Hid (SR S w4 w') ∧ Hid (D 0 → s38 = .pointer (some ⟨w.heap.size + 2,1,none⟩)) ∧ Hid (D 1 → s39 = .int .i64 lo_) ∧ Hid (D 2 → s40 = .pointer (some ⟨w.heap.size + 2,2,none⟩)) ∧ Hid (D 3 → s41 = .int .i64 hi_) ∧ Hid (D 4 → s42 = .pointer (some ⟨w.heap.size + 2,1,none⟩)) ∧ Hid (D 5 → s43 = .int .i64 lo_) ∧ Hid (D 6 → s44 = .pointer (some ⟨w.heap.size + 2,2,none⟩)) ∧ Hid (D 7 → s45 = .int .i64 hi_) ∧ Hid (D 8 → ∃ z : Int,s46 = .int .i64 z) ∧ Hid (D 9 → s47 = .pointer (some ⟨w.heap.size + 2,1,none⟩)) ∧ Hid (D 10 → s48 = .int .i64 lo_) ∧ Hid (D 11 → ∃ z : Int,s49 = .int .i64 z) ∧ Hid (D 12 → ∃ z : Int,s50 = .int .i64 z) ∧ Hid (D 13 → ∃ z : Int,s51 = .int .i64 z) ∧ Hid (D 14 → L3f (we (lo (w.heap.size + 4)) w') (w.heap.size + 4) s52) ∧ Hid (D 15 → s53 = .pointer (some ⟨S.b,0,none⟩)) ∧ Hid (D 16 → ∃ y : Nat,s54 = .int .i64 (y : Int) ∧ y < 3) ∧ Hid (D 17 → PXf (we (lo (w.heap.size + 4)) w') (w.heap.size + 4) s55) ∧ Hid (D 18 → ∃ z : Int,s56 = .int .i64 z) ∧ Hid (D 19 → ∃ z : Int,s57 = .agg #[.int .i64 1,.int .i64 z,.string ⟨#[]⟩,.slice none 0 0,.slice none 0 0,.slice none 0 0,.slice none 0 0])):=⟨_,rfl⟩
  subst hfr
  have HJ:=zH hJd;clear hJd
  refine Inv.wp_region_inv J (by kernel_rfl) (by decide +kernel) ?_ ?_ ?_
  · rw [HJ.out]
    exact ⟨fun h=>h.elim,fun _=>⟨_,_,_,_,_,_,_,_,_,_,_,_,_,_,_,_,_,_,_,_,rfl,zH (SR.refl Hsrc.out).drew,k0,k0,k0,k0,k0,k0,k0,k0,k0,k0,k0,k0,k0,k0,k0,k0,k0,k0,k0,k0⟩⟩
  · intro i op hi D ac w' hD hA hJ
    rw [HJ.out] at hJ
    have hl : ¬ D 20:=fun hl=>hD (if e : i = 20 then e ▸ hl else (hJ.1 hl).1 i (by have h1:=Nat.lt_of_lt_of_le (List.getElem?_eq_some_iff.1 hi).1 (show _ ≤ 21 by decide +kernel);omega))
    obtain ⟨s38,s39,s40,s41,s42,s43,s44,s45,s46,s47,s48,s49,s50,s51,s52,s53,s54,s55,s56,s57,e0,Hb,F0,F1,F2,F3,F4,F5,F6,F7,F8,F9,F10,F11,F12,F13,F14,F15,F16,F17,F18,F19⟩:=hJ.2 hl
    have HD:=zH hD;have HLL:=zH hl;clear hJ hD hl
    match i,hi,hA,HD with
    | 0,hi,hA,HD =>
      obtain rfl:=Option.some.inj hi;subst e0;clear hi
      clear hA
      go_wp2
      rw [HJ.out]
      exact ⟨fun h=>absurd (h.resolve_right (by decide)) HLL.out,fun _=>⟨_,_,_,_,_,_,_,_,_,_,_,_,_,_,_,_,_,_,_,_,rfl,Hb,zH fun _=>rfl,kp F1,kp F2,kp F3,kp F4,kp F5,kp F6,kp F7,kp F8,kp F9,kp F10,kp F11,kp F12,kp F13,kp F14,kp F15,kp F16,kp F17,kp F18,kp F19⟩⟩
    | 1,hi,hA,HD =>
      obtain rfl:=Option.some.inj hi;subst e0;clear hi
      have d0:=t1d hA 0 (by decide +kernel);clear hA
      obtain rfl:=F0.out d0
      obtain ⟨⟨-,n1,n2,-⟩,-,-,-,-⟩:=t0y (((Hb.out.block (by omega) (by omega)).trans HB4.out : w'.heap[w.heap.size + 2]? = _))
      go_wp2
      rw [HJ.out]
      exact ⟨fun h=>absurd (h.resolve_right (by decide)) HLL.out,fun _=>⟨_,_,_,_,_,_,_,_,_,_,_,_,_,_,_,_,_,_,_,_,rfl,Hb,kr,zH fun _=>rfl,kp F2,kp F3,kp F4,kp F5,kp F6,kp F7,kp F8,kp F9,kp F10,kp F11,kp F12,kp F13,kp F14,kp F15,kp F16,kp F17,kp F18,kp F19⟩⟩
    | 2,hi,hA,HD =>
      obtain rfl:=Option.some.inj hi;subst e0;clear hi
      clear hA
      go_wp2
      rw [HJ.out]
      exact ⟨fun h=>absurd (h.resolve_right (by decide)) HLL.out,fun _=>⟨_,_,_,_,_,_,_,_,_,_,_,_,_,_,_,_,_,_,_,_,rfl,Hb,kp F0,kp F1,zH fun _=>rfl,kp F3,kp F4,kp F5,kp F6,kp F7,kp F8,kp F9,kp F10,kp F11,kp F12,kp F13,kp F14,kp F15,kp F16,kp F17,kp F18,kp F19⟩⟩
    | 3,hi,hA,HD =>
      obtain rfl:=Option.some.inj hi;subst e0;clear hi
      have d2:=t1d hA 2 (by decide +kernel);clear hA
      obtain rfl:=F2.out d2
      obtain ⟨⟨-,n1,n2,-⟩,-,-,-,-⟩:=t0y (((Hb.out.block (by omega) (by omega)).trans HB4.out : w'.heap[w.heap.size + 2]? = _))
      go_wp2
      rw [HJ.out]
      exact ⟨fun h=>absurd (h.resolve_right (by decide)) HLL.out,fun _=>⟨_,_,_,_,_,_,_,_,_,_,_,_,_,_,_,_,_,_,_,_,rfl,Hb,kp F0,kp F1,kr,zH fun _=>rfl,kp F4,kp F5,kp F6,kp F7,kp F8,kp F9,kp F10,kp F11,kp F12,kp F13,kp F14,kp F15,kp F16,kp F17,kp F18,kp F19⟩⟩
    | 4,hi,hA,HD =>
      obtain rfl:=Option.some.inj hi;subst e0;clear hi
      clear hA
      go_wp2
      rw [HJ.out]
      exact ⟨fun h=>absurd (h.resolve_right (by decide)) HLL.out,fun _=>⟨_,_,_,_,_,_,_,_,_,_,_,_,_,_,_,_,_,_,_,_,rfl,Hb,kp F0,kp F1,kp F2,kp F3,zH fun _=>rfl,kp F5,kp F6,kp F7,kp F8,kp F9,kp F10,kp F11,kp F12,kp F13,kp F14,kp F15,kp F16,kp F17,kp F18,kp F19⟩⟩
    | 5,hi,hA,HD =>
      obtain rfl:=Option.some.inj hi;subst e0;clear hi
      have d4:=t1d hA 4 (by decide +kernel);clear hA
      obtain rfl:=F4.out d4
      obtain ⟨⟨-,n1,n2,-⟩,-,-,-,-⟩:=t0y (((Hb.out.block (by omega) (by omega)).trans HB4.out : w'.heap[w.heap.size + 2]? = _))
      go_wp2
      rw [HJ.out]
      exact ⟨fun h=>absurd (h.resolve_right (by decide)) HLL.out,fun _=>⟨_,_,_,_,_,_,_,_,_,_,_,_,_,_,_,_,_,_,_,_,rfl,Hb,kp F0,kp F1,kp F2,kp F3,kr,zH fun _=>rfl,kp F6,kp F7,kp F8,kp F9,kp F10,kp F11,kp F12,kp F13,kp F14,kp F15,kp F16,kp F17,kp F18,kp F19⟩⟩
    | 6,hi,hA,HD =>
      obtain rfl:=Option.some.inj hi;subst e0;clear hi
      clear hA
      go_wp2
      rw [HJ.out]
      exact ⟨fun h=>absurd (h.resolve_right (by decide)) HLL.out,fun _=>⟨_,_,_,_,_,_,_,_,_,_,_,_,_,_,_,_,_,_,_,_,rfl,Hb,kp F0,kp F1,kp F2,kp F3,kp F4,kp F5,zH fun _=>rfl,kp F7,kp F8,kp F9,kp F10,kp F11,kp F12,kp F13,kp F14,kp F15,kp F16,kp F17,kp F18,kp F19⟩⟩
    | 7,hi,hA,HD =>
      obtain rfl:=Option.some.inj hi;subst e0;clear hi
      have d6:=t1d hA 6 (by decide +kernel);clear hA
      obtain rfl:=F6.out d6
      obtain ⟨⟨-,n1,n2,-⟩,-,-,-,-⟩:=t0y (((Hb.out.block (by omega) (by omega)).trans HB4.out : w'.heap[w.heap.size + 2]? = _))
      go_wp2
      rw [HJ.out]
      exact ⟨fun h=>absurd (h.resolve_right (by decide)) HLL.out,fun _=>⟨_,_,_,_,_,_,_,_,_,_,_,_,_,_,_,_,_,_,_,_,rfl,Hb,kp F0,kp F1,kp F2,kp F3,kp F4,kp F5,kr,zH fun _=>rfl,kp F8,kp F9,kp F10,kp F11,kp F12,kp F13,kp F14,kp F15,kp F16,kp F17,kp F18,kp F19⟩⟩
    | 8,hi,hA,HD =>
      obtain rfl:=Option.some.inj hi;subst e0;clear hi
      have d7:=t1d hA 7 (by decide +kernel);clear hA
      obtain rfl:=F7.out d7
      go_wp2
      rw [HJ.out]
      exact ⟨fun h=>absurd (h.resolve_right (by decide)) HLL.out,fun _=>⟨_,_,_,_,_,_,_,_,_,_,_,_,_,_,_,_,_,_,_,_,rfl,Hb,kp F0,kp F1,kp F2,kp F3,kp F4,kp F5,kp F6,kr,zH fun _=>⟨_,rfl⟩,kp F9,kp F10,kp F11,kp F12,kp F13,kp F14,kp F15,kp F16,kp F17,kp F18,kp F19⟩⟩
    | 9,hi,hA,HD =>
      obtain rfl:=Option.some.inj hi;subst e0;clear hi
      clear hA
      go_wp2
      rw [HJ.out]
      exact ⟨fun h=>absurd (h.resolve_right (by decide)) HLL.out,fun _=>⟨_,_,_,_,_,_,_,_,_,_,_,_,_,_,_,_,_,_,_,_,rfl,Hb,kp F0,kp F1,kp F2,kp F3,kp F4,kp F5,kp F6,kp F7,kp F8,zH fun _=>rfl,kp F10,kp F11,kp F12,kp F13,kp F14,kp F15,kp F16,kp F17,kp F18,kp F19⟩⟩
    | 10,hi,hA,HD =>
      obtain rfl:=Option.some.inj hi;subst e0;clear hi
      have d9:=t1d hA 9 (by decide +kernel);clear hA
      obtain rfl:=F9.out d9
      obtain ⟨⟨-,n1,n2,-⟩,-,-,-,-⟩:=t0y (((Hb.out.block (by omega) (by omega)).trans HB4.out : w'.heap[w.heap.size + 2]? = _))
      go_wp2
      rw [HJ.out]
      exact ⟨fun h=>absurd (h.resolve_right (by decide)) HLL.out,fun _=>⟨_,_,_,_,_,_,_,_,_,_,_,_,_,_,_,_,_,_,_,_,rfl,Hb,kp F0,kp F1,kp F2,kp F3,kp F4,kp F5,kp F6,kp F7,kp F8,kr,zH fun _=>rfl,kp F11,kp F12,kp F13,kp F14,kp F15,kp F16,kp F17,kp F18,kp F19⟩⟩
    | 11,hi,hA,HD =>
      obtain rfl:=Option.some.inj hi;subst e0;clear hi
      have d10:=t1d hA 10 (by decide +kernel);clear hA
      obtain rfl:=F10.out d10
      go_wp2
      rw [HJ.out]
      exact ⟨fun h=>absurd (h.resolve_right (by decide)) HLL.out,fun _=>⟨_,_,_,_,_,_,_,_,_,_,_,_,_,_,_,_,_,_,_,_,rfl,Hb,kp F0,kp F1,kp F2,kp F3,kp F4,kp F5,kp F6,kp F7,kp F8,kp F9,kr,zH fun _=>⟨_,rfl⟩,kp F12,kp F13,kp F14,kp F15,kp F16,kp F17,kp F18,kp F19⟩⟩
    | 12,hi,hA,HD =>
      obtain rfl:=Option.some.inj hi;subst e0;clear hi
      have d8:=t1d hA 8 (by decide +kernel);have d11:=t1d hA 11 (by decide +kernel);clear hA
      obtain ⟨z1,rfl⟩:=F8.out d8
      obtain ⟨z2,rfl⟩:=F11.out d11
      go_wp2
      rw [HJ.out]
      exact ⟨fun h=>absurd (h.resolve_right (by decide)) HLL.out,fun _=>⟨_,_,_,_,_,_,_,_,_,_,_,_,_,_,_,_,_,_,_,_,rfl,Hb,kp F0,kp F1,kp F2,kp F3,kp F4,kp F5,kp F6,kp F7,kp F8,kp F9,kp F10,kp F11,zH fun _=>⟨_,rfl⟩,kp F13,kp F14,kp F15,kp F16,kp F17,kp F18,kp F19⟩⟩
    | 13,hi,hA,HD =>
      obtain rfl:=Option.some.inj hi;subst e0;clear hi
      have d5:=t1d hA 5 (by decide +kernel);have d12:=t1d hA 12 (by decide +kernel);clear hA
      obtain rfl:=F5.out d5
      obtain ⟨z1,rfl⟩:=F12.out d12
      go_wp2
      rw [HJ.out]
      exact ⟨fun h=>absurd (h.resolve_right (by decide)) HLL.out,fun _=>⟨_,_,_,_,_,_,_,_,_,_,_,_,_,_,_,_,_,_,_,_,rfl,Hb,kp F0,kp F1,kp F2,kp F3,kp F4,kr,kp F6,kp F7,kp F8,kp F9,kp F10,kp F11,kp F12,zH fun _=>⟨_,rfl⟩,kp F14,kp F15,kp F16,kp F17,kp F18,kp F19⟩⟩
    | 14,hi,hA,HD =>
      obtain rfl:=Option.some.inj hi;subst e0;clear hi
      have d1:=t1d hA 1 (by decide +kernel);have d3:=t1d hA 3 (by decide +kernel);have d13:=t1d hA 13 (by decide +kernel);clear hA
      obtain rfl:=F1.out d1
      obtain rfl:=F3.out d3
      obtain ⟨z1,rfl⟩:=F13.out d13
      go_wp2
      have hal:=(Below.refl w'.heap.size w').alloc (Nat.le_refl _) (.cells #[.int .i64 lo_,.int .i64 hi_,.int .i64 z1] 2)
      have HS:=zH ((SR.refl Hb.out.src).step hal)
      have HW:=zH (show Below (we (lo (w.heap.size + 4)) w').heap.size (we (lo (w.heap.size + 4)) w') (we (lo (w.heap.size + 4)) (w'.alloc (.cells #[.int .i64 lo_,.int .i64 hi_,.int .i64 z1] 2))) by rw [t0j];exact t1l hal)
      have HL:=zH (tjg (B:=(w.heap.size + 4)) w' lo_ hi_ z1 (Nat.le_trans hw4 Hb.out.size))
      clear hal
      rw [HJ.out]
      exact ⟨fun h=>absurd (h.resolve_right (by decide)) HLL.out,fun _=>⟨_,_,_,_,_,_,_,_,_,_,_,_,_,_,_,_,_,_,_,_,rfl,zH (Hb.out.trans HS.out),kp F0,kr,kp F2,kr,kp F4,kp F5,kp F6,kp F7,kp F8,kp F9,kp F10,kp F11,kp F12,kp F13,zH fun _=>HL.out,kp F15,kp F16,km F17 fun q=>(q).turn HW.out,kp F18,kp F19⟩⟩
    | 15,hi,hA,HD =>
      obtain rfl:=Option.some.inj hi;subst e0;clear hi
      clear hA
      go_wp2
      rw [HJ.out]
      exact ⟨fun h=>absurd (h.resolve_right (by decide)) HLL.out,fun _=>⟨_,_,_,_,_,_,_,_,_,_,_,_,_,_,_,_,_,_,_,_,rfl,Hb,kp F0,kp F1,kp F2,kp F3,kp F4,kp F5,kp F6,kp F7,kp F8,kp F9,kp F10,kp F11,kp F12,kp F13,kp F14,zH fun _=>rfl,kp F16,kp F17,kp F18,kp F19⟩⟩
    | 16,hi,hA,HD =>
      obtain rfl:=Option.some.inj hi;subst e0;clear hi
      have d15:=t1d hA 15 (by decide +kernel);clear hA
      obtain rfl:=F15.out d15
      go_wp2_with (go_at_call 24;refine (t0z S 3 w' Hb.out.src (by omega)).mono ?_;rintro e w5 ⟨y,rfl,hs,h0y,h1y,-⟩;have h1y:=h1y (by decide);obtain ⟨m,rfl⟩ : ∃ m : Nat,y = (m : Int):=⟨y.toNat,by omega⟩;have hm3 : m < 3:=(by omega);have HS:=zH hs;have HW:=zH (show Below (we (lo (w.heap.size + 4)) w').heap.size (we (lo (w.heap.size + 4)) w') (we (lo (w.heap.size + 4)) w5) by rw [t0j];exact hs.we (by simp [lo];omega));clear hs)
      rw [HJ.out]
      exact ⟨fun h=>absurd (h.resolve_right (by decide)) HLL.out,fun _=>⟨_,_,_,_,_,_,_,_,_,_,_,_,_,_,_,_,_,_,_,_,rfl,zH (Hb.out.trans HS.out),kp F0,kp F1,kp F2,kp F3,kp F4,kp F5,kp F6,kp F7,kp F8,kp F9,kp F10,kp F11,kp F12,kp F13,km F14 fun q=>(q).turn HW.out,kr,zH fun _=>⟨m,rfl,hm3⟩,km F17 fun q=>(q).turn HW.out,kp F18,kp F19⟩⟩
    | 17,hi,hA,HD =>
      obtain rfl:=Option.some.inj hi;subst e0;clear hi
      have d14:=t1d hA 14 (by decide +kernel);have d16:=t1d hA 16 (by decide +kernel);clear hA
      obtain ⟨g,za,zb,zc,rfl,hgB,hg⟩:=F14.out d14
      obtain ⟨m,rfl,hm3⟩:=F16.out d16
      have dm : decide (m < 3) = true:=by simp [hm3]
      have Hg:=zH hg
      clear hg
      go_wp2
      have HP:=zH (tk0 Hg.out hgB hm3)
      rw [HJ.out]
      exact ⟨fun h=>absurd (h.resolve_right (by decide)) HLL.out,fun _=>⟨_,_,_,_,_,_,_,_,_,_,_,_,_,_,_,_,_,_,_,_,rfl,Hb,kp F0,kp F1,kp F2,kp F3,kp F4,kp F5,kp F6,kp F7,kp F8,kp F9,kp F10,kp F11,kp F12,kp F13,kp F14,kp F15,kp F16,zH fun _=>HP.out,kp F18,kp F19⟩⟩
    | 18,hi,hA,HD =>
      obtain rfl:=Option.some.inj hi;subst e0;clear hi
      have d17:=t1d hA 17 (by decide +kernel);clear hA
      obtain ⟨g,m,x,rfl,hgB,hg⟩:=F17.out d17
      have hc:=(t1j hg).2
      clear hg
      go_wp2
      rw [HJ.out]
      exact ⟨fun h=>absurd (h.resolve_right (by decide)) HLL.out,fun _=>⟨_,_,_,_,_,_,_,_,_,_,_,_,_,_,_,_,_,_,_,_,rfl,Hb,kp F0,kp F1,kp F2,kp F3,kp F4,kp F5,kp F6,kp F7,kp F8,kp F9,kp F10,kp F11,kp F12,kp F13,kp F14,kp F15,kp F16,kp F17,zH fun _=>⟨_,rfl⟩,kp F19⟩⟩
    | 19,hi,hA,HD =>
      obtain rfl:=Option.some.inj hi;subst e0;clear hi
      have d18:=t1d hA 18 (by decide +kernel);clear hA
      obtain ⟨z1,rfl⟩:=F18.out d18
      go_wp2_with (go_at_call 21;refine (t7a z1 w').mono ?_;rintro e w5 ⟨rfl,hb5⟩;have HS:=zH ((SR.refl Hb.out.src).step hb5);have HW:=zH (show Below (we (lo (w.heap.size + 4)) w').heap.size (we (lo (w.heap.size + 4)) w') (we (lo (w.heap.size + 4)) w5) by rw [t0j];exact t1l hb5);clear hb5)
      rw [HJ.out]
      exact ⟨fun h=>absurd (h.resolve_right (by decide)) HLL.out,fun _=>⟨_,_,_,_,_,_,_,_,_,_,_,_,_,_,_,_,_,_,_,_,rfl,zH (Hb.out.trans HS.out),kp F0,kp F1,kp F2,kp F3,kp F4,kp F5,kp F6,kp F7,kp F8,kp F9,kp F10,kp F11,kp F12,kp F13,km F14 fun q=>(q).turn HW.out,kp F15,kp F16,km F17 fun q=>(q).turn HW.out,kp F18,zH fun _=>⟨z1,rfl⟩⟩⟩
    | 20,hi,hA,HD =>
      obtain rfl:=Option.some.inj hi;subst e0;clear hi
      have dd:=t9m hA (n:=20) (by decide +kernel)
      have d19:=dd 19 (by decide);clear hA
      obtain ⟨z1,rfl⟩:=F19.out d19
      have ZO:=zH ((Hb.out.block (k:=(w.heap.size + 1)) (by omega) Hbo.out).trans HO4.out)
      go_wp2_with (with_reducible refine wpList_store_row rfl 28 (.tmp 8) (.tmp 57) rfl _ _ rfl rfl _ _ ZO.out (by kernel_rfl) (by kernel_rfl) (by kernel_rfl) ?_)
      rw [HJ.out]
      exact ⟨fun _=>⟨fun k hk=>.inl (dd k hk),_,_,_,_,_,_,_,_,_,_,_,_,_,_,_,_,_,_,_,_,rfl,⟨z1,setRow_heap _ _ _ _ _ _ ZO.out,(H4.out.trans Hb.out).row (by omega) Hbo.out _⟩⟩,fun h=>absurd (.inr rfl) h⟩
    | n + 21,hi,hA,HD=>cases hi
  · intro D ac w' hall hJ
    rw [HJ.out] at hJ
    obtain ⟨-,s38,s39,s40,s41,s42,s43,s44,s45,s46,s47,s48,s49,s50,s51,s52,s53,s54,s55,s56,s57,rfl,hfin⟩:=hJ.1 (hall 20 (by decide))
    clear hall hJ
    obtain ⟨z,hc,hs⟩:=hfin
    have HC:=zH hc;have HS:=zH hs
    clear hc hs
    go_wp2
    refine bodyPost_ret (results_cell_row rfl _ _ (w.heap.size + 1) 28 _ (0,0) _ rfl HC.out rfl rfl (by kernel_rfl)) rfl ?_
    exact ⟨_,_,rfl,vw0 _ _ _ _,⟨(by show VV.nodes _ ≤ _;simp [VV.nodes,nodesVs,nodesEs]),rfl⟩,HS.out⟩
end Go.Proofs.YtjgldaaofdpcgaaGreat
