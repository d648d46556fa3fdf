/- Walks and plain facts for the laws of membership, for all values and types that the heap holds (texts H1). -/
import Derived.Test.YtjgldaaofdpcgaaGreatV03
import Derived.Test.YtjgldaaofdpcgaaGreatV44
set_option linter.unusedVariables false
set_option linter.unusedSimpArgs false
namespace Go.Proofs.YtjgldaaofdpcgaaGreat
open Go.RowKit Go.Ident
set_option maxRecDepth 100000
def UL (V : VV) : Prop:=∀ (E : Nat → Bool) (w : World) (u : Value),Old E w.heap.size → VW (we E w) u V → Calls Tryz.prog 17 #[u] w fun e w'=>∃ v',e = .returned v' ∧ VW (we E w') v' (ulV V) ∧ Below w.heap.size w w'
theorem tfc (g : Nat) : (Value.slice none 0 0).ownBlock = some g → False:=by simp [Value.ownBlock]
theorem tan {E : Nat → Bool} {A B : Nat} (hE : Old E A) (hA : A ≤ B) : Old (gE E A B (.slice none 0 0)) B:=fun k hk=>by
  simp only [gE,Bool.or_eq_false_iff,Bool.and_eq_false_iff,decide_eq_false_iff_not]
  exact ⟨hE k (by omega),.inr (by omega),fun e=>tfc _ e⟩
theorem tao {α β : Type} (f : α → β) {l : List α} {i : Nat} (h : i < l.length) : (l.take (i + 1)).map f = (l.take i).map f ++ [f l[i]]:=by
  rw [List.take_succ_eq_append_getElem h,List.map_append];rfl
set_option maxHeartbeats 64000000 in
theorem tdx (V : VV) (hS : Shrt V) (ih : ∀ X,X.ht < V.ht → Shrt X → UL X) : UL V:=by
  intro E w u hE hu
  obtain ⟨d,cs,rfl,hvs⟩:=hu
  cases d with
  | zero=>exact hvs.elim
  | succ d =>
  obtain ⟨q1,c1,q2,c2,q3,c3,q4,c4,rfl,hK,hY,hEn,-⟩:=hvs
  have HK:=zH hK;have HY:=zH hY;have HEn:=zH hEn;have HE:=zH hE
  obtain ⟨hkl,hks⟩:=hS.kids
  obtain ⟨hel,hes⟩:=hS.ents
  have Hks:=zH hks;have Hes:=zH hes;have Hih:=zH ih
  obtain ⟨w2,e9,hA,hB,hb⟩:=t1l w (.cells #[.int .i64 V.kind,.int .i64 V.num,.string V.text,.slice q1 V.kids.length c1,.slice q2 V.keys.length c2,.slice q3 V.ents.length c3,.slice q4 V.labels.length c4] 28) (.cells #[.int .i64 0,.int .i64 0,.string ⟨#[]⟩,.slice none 0 0,.slice none 0 0,.slice none 0 0,.slice none 0 0] 28)
  have Hs2:=zH (show w2.heap.size = w.heap.size + 2 by rw [← e9];simp)
  have HB2:=zH hB;have HA2:=zH hA;have Hb2:=zH hb
  have E9:=zH e9
  have y6 : w2.cell? ⟨w.heap.size,6,none⟩ = some (.slice q4 V.labels.length c4):=by simp [World.cell?,hA]
  have y7 : w2.frozen? ⟨w.heap.size,6,none⟩ = false:=by simp [World.frozen?,hA]
  clear hK hY hEn hE hks hes ih hA hB hb e9 hS
  go_enter Tryz.func17,Tryz.ntmps17
  go_upto_region 1 with fail
  rw [E9.out]
  clear E9
  go_upto_region 2 with fail
  have HU:=zH (show Upd w.heap.size (.cells #[.int .i64 V.kind,.int .i64 V.num,.string V.text,.slice q1 V.kids.length c1,.slice q2 V.keys.length c2,.slice q3 V.ents.length c3,.slice none 0 0] 28) w2 (w2.setCell ⟨w.heap.size,6,none⟩ (.slice none 0 0)) from Upd.cast (Upd.set (i:=6) (v:=.slice none 0 0) (Upd.refl HA2.out)) rfl)
  clear y6 y7
  generalize w2.setCell ⟨w.heap.size,6,none⟩ (.slice none 0 0) = w3 at *
  have Hb3:=zH (Hb2.out.trans (HU.out.below (Nat.le_refl _)))
  have HB3:=zH ((HU.out.other _ (by omega)).trans HB2.out)
  have HA3:=zH HU.out.blk
  go_wp2
  go_loopw [3,4] (fun kv iv wr=>∃ (i : Nat) (xs : List Value) (dk : Nat),iv = .int .i64 (i : Int) ∧ i ≤ V.kids.length ∧ wr.ownsRow (w.heap.size + 2) 28 7 kv i xs ∧ Ch 7 (VS (we (gE E w.heap.size (w.heap.size + 2) (kv)) wr) dk) ((V.kids.take i).map ulV) xs ∧ wr.heap[w.heap.size]? = some (.cells #[.int .i64 V.kind,.int .i64 V.num,.string V.text,.slice q1 V.kids.length c1,.slice q2 V.keys.length c2,.slice q3 V.ents.length c3,.slice none 0 0] 28) ∧ wr.heap[(w.heap.size + 1)]? = some (.cells #[.int .i64 0,.int .i64 0,.string ⟨#[]⟩,.slice none 0 0,.slice none 0 0,.slice none 0 0,.slice none 0 0] 28) ∧ Below w.heap.size w wr) (fun _ iv _=>V.kids.length - (intOf iv).toNat)
  case atStart=>exact ⟨0,[],0,rfl,by omega,World.ownsRow_nil _ _ _ _,Ch.nil,HA3.out,HB3.out,Hb3.out⟩
  case round =>
    obtain ⟨i,xs,dk,rfl,hi,ho,hc,hA,hB,hbr⟩:=hrel
    obtain ⟨pk,ck,rfl⟩:=t0m ho
    have Ho:=zH ho;have Hc:=zH hc;have HAr:=zH hA;have HBr:=zH hB;have Hbr:=zH hbr
    obtain ⟨⟨f0,f1,f2,f3⟩,f4,f5,f6⟩:=t0j hA
    have hsz2 : (w.heap.size + 2) ≤ wr.heap.size:=t0b hB
    clear ho hc hA hB hbr
    by_cases hlt : i < V.kids.length
    · have d9 : decide (i < V.kids.length) = true:=by simp [hlt]
      obtain ⟨a,o,cs,rfl,hab,-,hrange,hX⟩:=HK.out.all hlt
      have Hgi:=zH (gE_in (B:=(w.heap.size + 2)) (v:=.slice pk i ck) (E:=E) Hbr.out fun g hg=>by have:=(Ho.out.lt g hg).1;omega)
      obtain ⟨x1,x2,x3,x4,x5,x6,x7,x8,rfl⟩:=hX.seven
      have hrg:=hrange _ Hgi.out
      have q0:=(t0o (hrg 0 _ rfl)).2;have q1:=(t0o (hrg 1 _ rfl)).2;have q2':=(t0o (hrg 2 _ rfl)).2;have q3':=(t0o (hrg 3 _ rfl)).2;have q4':=(t0o (hrg 4 _ rfl)).2;have q5:=(t0o (hrg 5 _ rfl)).2;have q6:=(t0o (hrg 6 _ rfl)).2
      rw [Nat.add_zero] at q0
      have Hcl:=zH (Hih.out V.kids[i] (t3d (List.getElem_mem hlt)) (Hks.out _ (List.getElem_mem hlt)) (gE E w.heap.size (w.heap.size + 2) (.slice pk i ck)) wr _ (tbi HE.out (by omega) hsz2 Ho.out) ⟨d,_,rfl,hX.below Hgi.out⟩)
      have Htm:=zH (tao ulV hlt)
      clear hrg hrange hX
      generalize ulV V.kids[i] = Z at *
      generalize V.kids[i] = X at *
      go_wp2_with (first
        | (go_at_call 17;refine Hcl.out.mono ?_;rintro e w5 ⟨v5,rfl,hx,hb5⟩;obtain ⟨dv,cs,rfl,hx⟩:=hx;obtain ⟨z1,z2,z3,z4,z5,z6,z7,z8,rfl⟩:=hx.seven;have HX:=zH hx;have Hone:=zH hx.one;have Hb5:=zH hb5;have Ho5:=zH (t0d Ho.out hb5 (Nat.le_refl _));have hw5 : (w.heap.size + 2) ≤ w5.heap.size:=(Nat.le_trans hsz2 hb5.size);clear hx hb5)
        | (at_builtin;go_loud (refine t0k rfl (.tmp 17) (.tmp 24) 23 rfl 28 (by kernel_rfl) t1s rfl (by decide) (by decide) (w.heap.size + 2) _ w5.heap.size [.int .i64 Z.kind,.int .i64 Z.num,.string Z.text,.slice z1 Z.kids.length z2,.slice z3 Z.keys.length z4,.slice z5 Z.ents.length z6,.slice z7 Z.labels.length z8] (heap_alloc_new w5 _) (Nat.le_trans hw5 (by simp)) rfl Hone.out (.slice pk i ck) i xs rfl (t0d Ho5.out ((Below.refl _ _).alloc (Nat.le_refl _) _) (Nat.le_refl _)) (by omega) rfl ?_);intro v8 w8 ho8 hf8;have hb8:=(hf8.below (Nat.le_trans hw5 (by simp)) (by simp) fun g hg=>(Ho5.out.lt g hg).1);have Hb8:=zH ((Hb5.out.mono (by omega)).trans (((Below.refl w5.heap.size w5).alloc (Nat.le_refl _) (.cells #[.int .i64 Z.kind,.int .i64 Z.num,.string Z.text,.slice z1 Z.kids.length z2,.slice z3 Z.keys.length z4,.slice z5 Z.ents.length z6,.slice z7 Z.labels.length z8] 28)).mono hw5 |>.trans hb8));have Ho8:=zH ho8;have Hf8:=zH hf8;clear ho8 hf8 hb8))
      have hcA:=tfb Hc.out Hb5.out HX.out Hf8.out
      rw [← Htm.out] at hcA
      exact ⟨⟨i + 1,xs ++ [.int .i64 Z.kind,.int .i64 Z.num,.string Z.text,.slice z1 Z.kids.length z2,.slice z3 Z.keys.length z4,.slice z5 Z.ents.length z6,.slice z7 Z.labels.length z8],max dk dv,by first | rfl | (congr 1),by omega,Ho8.out,hcA,(Hb8.out.block _ (by omega)).trans HAr.out,(Hb8.out.block _ (by omega)).trans HBr.out,Hbr.out.trans (Hb8.out.mono (by omega))⟩,by simp [intOf];omega⟩
    · have d9 : decide (i < V.kids.length) = false:=by simp;omega
      obtain rfl : i = V.kids.length:=by omega
      have hfull : (V.kids.take V.kids.length).map ulV = V.kids.map ulV:=by rw [List.take_length]
      have hc2:=Hc.out
      rw [hfull] at hc2
      have hlen : (V.kids.map ulV).length = V.kids.length:=by simp
      obtain ⟨pk',ck',ek,hrw⟩:=t1k (l:=V.kids.map ulV) (t1o (E:=(gE E w.heap.size (w.heap.size + 2) (.slice none 0 0))) (by rw [hlen];exact Ho.out) (tan HE.out (by omega))) (hc2.mono fun x cs _ h=>h.sub (t9w _ _ _ _ _)) (by simp;omega)
      rw [hlen] at ek
      injection ek with ek1 _ ek3
      subst ek1 ek3
      have Hkr:=zH hrw
      have hckl : V.kids.length ≤ ck:=t3y Ho.out
      have y3 : wr.cell? ⟨w.heap.size,3,none⟩ = some (.slice q1 V.kids.length c1):=by simp [World.cell?,HAr.out]
      have y7 : wr.frozen? ⟨w.heap.size,3,none⟩ = false:=by simp [World.frozen?,HAr.out]
      have HU7:=zH (show Upd w.heap.size (.cells #[.int .i64 V.kind,.int .i64 V.num,.string V.text,.slice pk V.kids.length ck,.slice q2 V.keys.length c2,.slice q3 V.ents.length c3,.slice none 0 0] 28) wr (wr.setCell ⟨w.heap.size,3,none⟩ (.slice pk V.kids.length ck)) from Upd.cast (Upd.set (i:=3) (v:=.slice pk V.kids.length ck) (Upd.refl HAr.out)) rfl)
      clear hfull hc2 hlen hrw f0 f1 f2 f4 f5 f6
      go_upto_region 8 with fail
      clear y3 y7 f3
      generalize wr.setCell ⟨w.heap.size,3,none⟩ (.slice pk V.kids.length ck) = w4 at *
      have Hb4:=zH (Hbr.out.trans (HU7.out.below (Nat.le_refl _)))
      have HA4:=zH HU7.out.blk
      have HB4:=zH ((HU7.out.other _ (by omega)).trans HBr.out)
      have Hk4:=zH (Hkr.out.below (by rw [t0e];exact t1j HU7.out (gE_b (Nat.le_refl _) (by omega))) fun x cs _ h=>h.below (by rw [t0e];exact t1j HU7.out (gE_b (Nat.le_refl _) (by omega))))
      clear HAr HBr Hbr Ho Hc HB3 HA3 Hb3 HU HB2 HA2 Hb2
      go_wp2
      go_loopw [5,6,7,8] (fun lv jv _ _ wr=>∃ (j : Nat) (xs : List Value) (de dk : Nat),jv = .int .i64 (j : Int) ∧ j ≤ V.ents.length ∧ wr.ownsRow (w.heap.size + 2) 55 9 lv j xs ∧ Ch 9 (ES (we (gE E w.heap.size (w.heap.size + 2) (lv)) wr) de) ((V.ents.take j).map ulE) xs ∧ Rw (we (gE E w.heap.size (w.heap.size + 2) (lv)) wr) pk ck 7 (V.kids.map ulV) (VS (we (gE E w.heap.size (w.heap.size + 2) (lv)) wr) dk) ∧ wr.heap[w.heap.size]? = some (.cells #[.int .i64 V.kind,.int .i64 V.num,.string V.text,.slice pk V.kids.length ck,.slice q2 V.keys.length c2,.slice q3 V.ents.length c3,.slice none 0 0] 28) ∧ wr.heap[(w.heap.size + 1)]? = some (.cells #[.int .i64 0,.int .i64 0,.string ⟨#[]⟩,.slice none 0 0,.slice none 0 0,.slice none 0 0,.slice none 0 0] 28) ∧ Below w.heap.size w wr) (fun _ jv _ _ _=>V.ents.length - (intOf jv).toNat)
      case atStart=>exact ⟨0,[],0,dk,rfl,by omega,World.ownsRow_nil _ _ _ _,Ch.nil,Hk4.out,HA4.out,HB4.out,Hb4.out⟩
      case round =>
        obtain ⟨j,xs,de,dk,rfl,hj,ho,hc,hk,hA,hB,hbr⟩:=hrel
        obtain ⟨pl,cl,rfl⟩:=t0m ho
        have Ho:=zH ho;have Hc:=zH hc;have Hk:=zH hk;have HAr:=zH hA;have HBr:=zH hB;have Hbr:=zH hbr
        obtain ⟨⟨f0,f1,f2,f3⟩,f4,f5,f6⟩:=t0j hA
        have hsz2 : (w.heap.size + 2) ≤ wr.heap.size:=t0b hB
        clear ho hc hk hA hB hbr
        by_cases hlt : j < V.ents.length
        · have d9 : decide (j < V.ents.length) = true:=by simp [hlt]
          obtain ⟨a,o,cs,rfl,hab,-,hrange,hX⟩:=HEn.out.all hlt
          have hab' : a < w.heap.size:=by rwa [t0e] at hab
          have Hgi:=zH (gE_in (B:=(w.heap.size + 2)) (v:=.slice pl j cl) (E:=E) Hbr.out fun g hg=>by have:=(Ho.out.lt g hg).1;omega)
          have Hold:=zH (tbi HE.out (by omega) hsz2 Ho.out)
          obtain ⟨pa,ca,rs,rfl,hargs,hres⟩:=hX
          obtain ⟨x1,x2,x3,x4,x5,x6,x7,x8,rfl⟩:=hres.seven
          have hrg:=hrange _ Hgi.out
          have Hrange:=zH hrange
          have q0:=(t0o (hrg 0 _ rfl)).2;have q1:=(t0o (hrg 1 _ rfl)).2;have q2':=(t0o (hrg 2 _ rfl)).2;have q3':=(t0o (hrg 3 _ rfl)).2;have q4':=(t0o (hrg 4 _ rfl)).2;have q5:=(t0o (hrg 5 _ rfl)).2;have q6:=(t0o (hrg 6 _ rfl)).2;have q7:=(t0o (hrg 7 _ rfl)).2;have q8:=(t0o (hrg 8 _ rfl)).2
          rw [Nat.add_zero] at q0
          obtain ⟨hal,hax,hrs⟩:=Hes.out V.ents[j] (List.getElem_mem hlt)
          have hht:=t3u (List.getElem_mem hlt)
          have Hcell:=zH (fun (w' : World) (hb : Below wr.heap.size wr w')=>hrange _ (Hgi.out.trans (by rw [t0e];exact (t1e hb).mono (by have:=Hbr.out.size;omega))))
          have Hres:=zH (hres.below Hgi.out)
          have Hcr:=zH (Hih.out V.ents[j].res (Nat.lt_of_le_of_lt (t3l _) hht) hrs)
          have Hargs:=zH hargs
          have Hax:=zH (fun x (hx : x ∈ V.ents[j].args)=>Hih.out x (Nat.lt_of_le_of_lt (t3k hx) hht) (hax x hx))
          have Htm:=zH (tao ulE hlt)
          have Hue:=zH (tb9 V.ents[j])
          clear hrg hrange hres hargs hax hrs hht
          generalize ulE V.ents[j] = Ye at *
          generalize V.ents[j] = e0 at *
          have Hres0:=zH (rfl : ulV e0.res = ulV e0.res)
          generalize hZ : ulV e0.res = Z at *
          have HZ:=zH hZ
          clear hZ Hres0
          obtain ⟨wq,hwq⟩ : ∃ wq : World,wq = wr:=⟨_,rfl⟩
          subst hwq
          have haq : a < wq.heap.size:=by omega
          go_upto_region 12 with fail
          have hwq2 : (w.heap.size + 2) ≤ wq.heap.size:=hsz2
          have HolG:=zH (tbi (v:=.slice pl j cl) HE.out (by omega) hsz2 Ho.out)
          generalize hGG : (gE E w.heap.size (w.heap.size + 2) (.slice pl j cl)) = GG at *
          have HGG:=zH hGG
          have HAw:=zH HAr.out
          clear hGG
          clear f0 f1 f2 f3 f4 f5 f6 q0 q1 q2' q3' q4' q5 q6 q7 q8
          have Hj:=zH hlt
          obtain ⟨fr,hfr⟩ : ∃ fr : Value → Value → Value → Value → Value → Value → Value → Value → Value → Value → Value → Value → Value → Value → Value → Act,fr = fun s35 s36 s37 s38 s39 s40 s41 s42 s43 s44 s45 s46 s47 s48 s7=>⟨#[Value.agg #[Value.int IntKind.i64 V.kind,Value.int IntKind.i64 V.num,Value.string V.text,Value.slice q1 V.kids.length c1,Value.slice q2 V.keys.length c2,Value.slice (some { block:=a,off:=o }) V.ents.length c3,Value.slice q4 V.labels.length c4],Value.pointer (some { block:=w.heap.size,off:=0 }),Value.pointer (some { block:=w.heap.size + 1,off:=0 }),Value.slice pk V.kids.length ck,Value.int IntKind.i64 ↑V.kids.length,Value.slice pl j cl,Value.int IntKind.i64 ↑j,s7,u8,Value.pointer (some { block:=w.heap.size,off:=6 }),Value.int IntKind.i64 ↑V.kids.length,Value.pointer (some { block:=w.heap.size,off:=3 }),Value.slice q1 V.kids.length c1,Value.int IntKind.i64 ↑V.kids.length,Value.bool false,u15,u16,u17,u18,u19,u20,u21,u22,u23,u24,u25,Value.slice pk V.kids.length ck,Value.pointer (some { block:=w.heap.size,off:=3 }),Value.int IntKind.i64 ↑j,Value.pointer (some { block:=w.heap.size,off:=5 }),Value.slice (some { block:=a,off:=o }) V.ents.length c3,Value.int IntKind.i64 ↑V.ents.length,Value.bool true,u33,u34,s35,s36,s37,s38,s39,s40,s41,s42,s43,s44,s45,s46,s47,s48,u49,u50,u51,u52,u53,u54,u55,u56,u57,u58,u59,u60,u61,u62,u63,u64,u65,u66,u67,u68,u69,u70,u71,u72,u73,u74,u75,u76,u77,u78,undef,undef,undef,undef],[]⟩:=⟨_,rfl⟩
          obtain ⟨J,hJd⟩ : ∃ J : (Nat → Prop) → Act → World → Prop,J = fun (D : Nat → Prop) (ac : Act) (w' : World)=>(D 15 → (∀ i,i < 15 → D i) ∧ ∃ (s35 s36 s37 s38 s39 s40 s41 s42 s43 s44 s45 s46 s47 s48 s7 : Value),ac = fr s35 s36 s37 s38 s39 s40 s41 s42 s43 s44 s45 s46 s47 s48 s7 ∧ ∃ (z1 : Option Addr) (z2 : Nat) (z3 : Option Addr) (z4 : Nat) (z5 : Option Addr) (z6 : Nat) (z7 : Option Addr) (z8 : Nat),∃ (g dv : Nat),s7 = .pointer (some ⟨g,0,none⟩) ∧ wq.heap.size ≤ g ∧ w'.heap[g]? = some (.cells #[.slice none 0 0,.bool e0.fails,.int .i64 Z.kind,.int .i64 Z.num,.string Z.text,.slice z1 Z.kids.length z2,.slice z3 Z.keys.length z4,.slice z5 Z.ents.length z6,.slice z7 Z.labels.length z8] 55) ∧ VS (we (ex GG g) w') dv Z [.int .i64 Z.kind,.int .i64 Z.num,.string Z.text,.slice z1 Z.kids.length z2,.slice z3 Z.keys.length z4,.slice z5 Z.ents.length z6,.slice z7 Z.labels.length z8] ∧ Below wq.heap.size wq w') ∧ (¬ D 15 → ∃ (s35 s36 s37 s38 s39 s40 s41 s42 s43 s44 s45 s46 s47 s48 s7 : Value),ac = fr s35 s36 s37 s38 s39 s40 s41 s42 s43 s44 s45 s46 s47 s48 s7 ∧ Hid (Below wq.heap.size wq w') ∧ Hid (D 0 → s35 = .pointer (some ⟨w.heap.size,5,none⟩)) ∧ Hid (D 1 → s36 = .slice (some ⟨a,o,none⟩) V.ents.length c3) ∧ Hid (D 2 → s37 = .int .i64 (j : Int)) ∧ Hid (D 3 → s38 = .pointer (some ⟨a,o + j * 9,none⟩)) ∧ Hid (D 4 → s39 = .pointer (some ⟨a,o + j * 9 + 1,none⟩)) ∧ Hid (D 5 → s40 = .bool e0.fails) ∧ Hid (D 6 → s41 = .pointer (some ⟨w.heap.size,5,none⟩)) ∧ Hid (D 7 → s42 = .slice (some ⟨a,o,none⟩) V.ents.length c3) ∧ Hid (D 8 → s43 = .int .i64 (j : Int)) ∧ Hid (D 9 → s44 = .pointer (some ⟨a,o + j * 9,none⟩)) ∧ Hid (D 10 → s45 = .pointer (some ⟨a,o + j * 9 + 2,none⟩)) ∧ Hid (D 11 → s46 = .agg #[.int .i64 e0.res.kind,.int .i64 e0.res.num,.string e0.res.text,.slice x1 e0.res.kids.length x2,.slice x3 e0.res.keys.length x4,.slice x5 e0.res.ents.length x6,.slice x7 e0.res.labels.length x8]) ∧ Hid (D 12 → (∃ F : Nat → Bool,VW (we F w') s47 Z ∧ (∀ k,GG k = true → F k = true) ∧ (D 14 → ∀ g,s7 = .pointer (some ⟨g,0,none⟩) → F g = true))) ∧ Hid (D 13 → (D 12 ∧ ∃ (z1 : Option Addr) (z2 : Nat) (z3 : Option Addr) (z4 : Nat) (z5 : Option Addr) (z6 : Nat) (z7 : Option Addr) (z8 : Nat),s47 = .agg #[.int .i64 Z.kind,.int .i64 Z.num,.string Z.text,.slice z1 Z.kids.length z2,.slice z3 Z.keys.length z4,.slice z5 Z.ents.length z6,.slice z7 Z.labels.length z8] ∧ s48 = .agg #[.slice none 0 0,.bool e0.fails,.int .i64 Z.kind,.int .i64 Z.num,.string Z.text,.slice z1 Z.kids.length z2,.slice z3 Z.keys.length z4,.slice z5 Z.ents.length z6,.slice z7 Z.labels.length z8])) ∧ Hid (D 14 → (∃ g,s7 = .pointer (some ⟨g,0,none⟩) ∧ wq.heap.size ≤ g ∧ w'.heap[g]? = some (.cells #[.slice none 0 0,.bool false,.int .i64 0,.int .i64 0,.string ⟨#[]⟩,.slice none 0 0,.slice none 0 0,.slice none 0 0,.slice none 0 0] 55)))):=⟨_,rfl⟩
          subst hfr
          have HJ:=zH hJd;clear hJd
          refine Inv.wp_region_inv J (by kernel_rfl) (by decide +kernel) ?_ ?_ ?_
          · rw [HJ.out]
            exact ⟨fun h=>h.elim,fun _=>⟨_,_,_,_,_,_,_,_,_,_,_,_,_,_,_,rfl,zH (Below.refl _ _).drew,k0,k0,k0,k0,k0,k0,k0,k0,k0,k0,k0,k0,k0,k0,k0⟩⟩
          · intro i op hi D ac w' hD hA hJ
            rw [HJ.out] at hJ
            have hl : ¬ D 15:=fun hl=>hD (if e : i = 15 then e ▸ hl else (hJ.1 hl).1 i (by have h1:=Nat.lt_of_lt_of_le (List.getElem?_eq_some_iff.1 hi).1 (show _ ≤ 16 by decide +kernel);omega))
            obtain ⟨s35,s36,s37,s38,s39,s40,s41,s42,s43,s44,s45,s46,s47,s48,s7,e0,Hb,F0,F1,F2,F3,F4,F5,F6,F7,F8,F9,F10,F11,F12,F13,F14⟩:=hJ.2 hl
            have HD:=zH hD;have HLL:=zH hl;clear hJ hD hl
            match i,hi,hA,HD with
            | 0,hi,hA,HD =>
              obtain rfl:=Option.some.inj hi;subst e0;clear hi
              clear hA
              go_wp2
              rw [HJ.out]
              exact ⟨fun h=>absurd (h.resolve_right (by decide)) HLL.out,fun _=>⟨_,_,_,_,_,_,_,_,_,_,_,_,_,_,_,rfl,Hb,zH fun _=>rfl,kp F1,kp F2,kp F3,kp F4,kp F5,kp F6,kp F7,kp F8,kp F9,kp F10,kp F11,zH fun h=>(by obtain ⟨F,k1,k2,k3⟩:=(F12.out (h.resolve_right (by decide)));exact ⟨F,k1,k2,fun hd=>k3 (hd.resolve_right (by decide))⟩),zH fun h=>⟨Or.inl ((F13.out (h.resolve_right (by decide)))).1,((F13.out (h.resolve_right (by decide)))).2⟩,kp F14⟩⟩
            | 1,hi,hA,HD =>
              obtain rfl:=Option.some.inj hi;subst e0;clear hi
              have d0:=t0x hA 0 (by decide +kernel);clear hA
              obtain rfl:=F0.out d0
              obtain ⟨⟨-,-,-,-⟩,-,y5,-⟩:=t0j ((Hb.out.block _ (t0b HAw.out)).trans HAw.out)
              go_wp2
              rw [HJ.out]
              exact ⟨fun h=>absurd (h.resolve_right (by decide)) HLL.out,fun _=>⟨_,_,_,_,_,_,_,_,_,_,_,_,_,_,_,rfl,Hb,kr,zH fun _=>rfl,kp F2,kp F3,kp F4,kp F5,kp F6,kp F7,kp F8,kp F9,kp F10,kp F11,zH fun h=>(by obtain ⟨F,k1,k2,k3⟩:=(F12.out (h.resolve_right (by decide)));exact ⟨F,k1,k2,fun hd=>k3 (hd.resolve_right (by decide))⟩),zH fun h=>⟨Or.inl ((F13.out (h.resolve_right (by decide)))).1,((F13.out (h.resolve_right (by decide)))).2⟩,kp F14⟩⟩
            | 2,hi,hA,HD =>
              obtain rfl:=Option.some.inj hi;subst e0;clear hi
              clear hA
              go_wp2
              rw [HJ.out]
              exact ⟨fun h=>absurd (h.resolve_right (by decide)) HLL.out,fun _=>⟨_,_,_,_,_,_,_,_,_,_,_,_,_,_,_,rfl,Hb,kp F0,kp F1,zH fun _=>rfl,kp F3,kp F4,kp F5,kp F6,kp F7,kp F8,kp F9,kp F10,kp F11,zH fun h=>(by obtain ⟨F,k1,k2,k3⟩:=(F12.out (h.resolve_right (by decide)));exact ⟨F,k1,k2,fun hd=>k3 (hd.resolve_right (by decide))⟩),zH fun h=>⟨Or.inl ((F13.out (h.resolve_right (by decide)))).1,((F13.out (h.resolve_right (by decide)))).2⟩,kp F14⟩⟩
            | 3,hi,hA,HD =>
              obtain rfl:=Option.some.inj hi;subst e0;clear hi
              have d1:=t0x hA 1 (by decide +kernel);have d2:=t0x hA 2 (by decide +kernel);clear hA
              obtain rfl:=F1.out d1
              obtain rfl:=F2.out d2
              go_wp2
              rw [HJ.out]
              exact ⟨fun h=>absurd (h.resolve_right (by decide)) HLL.out,fun _=>⟨_,_,_,_,_,_,_,_,_,_,_,_,_,_,_,rfl,Hb,kp F0,kr,kr,zH fun _=>rfl,kp F4,kp F5,kp F6,kp F7,kp F8,kp F9,kp F10,kp F11,zH fun h=>(by obtain ⟨F,k1,k2,k3⟩:=(F12.out (h.resolve_right (by decide)));exact ⟨F,k1,k2,fun hd=>k3 (hd.resolve_right (by decide))⟩),zH fun h=>⟨Or.inl ((F13.out (h.resolve_right (by decide)))).1,((F13.out (h.resolve_right (by decide)))).2⟩,kp F14⟩⟩
            | 4,hi,hA,HD =>
              obtain rfl:=Option.some.inj hi;subst e0;clear hi
              have d3:=t0x hA 3 (by decide +kernel);clear hA
              obtain rfl:=F3.out d3
              go_wp2
              rw [HJ.out]
              exact ⟨fun h=>absurd (h.resolve_right (by decide)) HLL.out,fun _=>⟨_,_,_,_,_,_,_,_,_,_,_,_,_,_,_,rfl,Hb,kp F0,kp F1,kp F2,kr,zH fun _=>rfl,kp F5,kp F6,kp F7,kp F8,kp F9,kp F10,kp F11,zH fun h=>(by obtain ⟨F,k1,k2,k3⟩:=(F12.out (h.resolve_right (by decide)));exact ⟨F,k1,k2,fun hd=>k3 (hd.resolve_right (by decide))⟩),zH fun h=>⟨Or.inl ((F13.out (h.resolve_right (by decide)))).1,((F13.out (h.resolve_right (by decide)))).2⟩,kp F14⟩⟩
            | 5,hi,hA,HD =>
              obtain rfl:=Option.some.inj hi;subst e0;clear hi
              have d4:=t0x hA 4 (by decide +kernel);clear hA
              obtain rfl:=F4.out d4
              have yr:=(t0o (Hcell.out _ Hb.out 1 _ rfl)).2
              go_wp2
              rw [HJ.out]
              exact ⟨fun h=>absurd (h.resolve_right (by decide)) HLL.out,fun _=>⟨_,_,_,_,_,_,_,_,_,_,_,_,_,_,_,rfl,Hb,kp F0,kp F1,kp F2,kp F3,kr,zH fun _=>rfl,kp F6,kp F7,kp F8,kp F9,kp F10,kp F11,zH fun h=>(by obtain ⟨F,k1,k2,k3⟩:=(F12.out (h.resolve_right (by decide)));exact ⟨F,k1,k2,fun hd=>k3 (hd.resolve_right (by decide))⟩),zH fun h=>⟨Or.inl ((F13.out (h.resolve_right (by decide)))).1,((F13.out (h.resolve_right (by decide)))).2⟩,kp F14⟩⟩
            | 6,hi,hA,HD =>
              obtain rfl:=Option.some.inj hi;subst e0;clear hi
              clear hA
              go_wp2
              rw [HJ.out]
              exact ⟨fun h=>absurd (h.resolve_right (by decide)) HLL.out,fun _=>⟨_,_,_,_,_,_,_,_,_,_,_,_,_,_,_,rfl,Hb,kp F0,kp F1,kp F2,kp F3,kp F4,kp F5,zH fun _=>rfl,kp F7,kp F8,kp F9,kp F10,kp F11,zH fun h=>(by obtain ⟨F,k1,k2,k3⟩:=(F12.out (h.resolve_right (by decide)));exact ⟨F,k1,k2,fun hd=>k3 (hd.resolve_right (by decide))⟩),zH fun h=>⟨Or.inl ((F13.out (h.resolve_right (by decide)))).1,((F13.out (h.resolve_right (by decide)))).2⟩,kp F14⟩⟩
            | 7,hi,hA,HD =>
              obtain rfl:=Option.some.inj hi;subst e0;clear hi
              have d6:=t0x hA 6 (by decide +kernel);clear hA
              obtain rfl:=F6.out d6
              obtain ⟨⟨-,-,-,-⟩,-,y5,-⟩:=t0j ((Hb.out.block _ (t0b HAw.out)).trans HAw.out)
              go_wp2
              rw [HJ.out]
              exact ⟨fun h=>absurd (h.resolve_right (by decide)) HLL.out,fun _=>⟨_,_,_,_,_,_,_,_,_,_,_,_,_,_,_,rfl,Hb,kp F0,kp F1,kp F2,kp F3,kp F4,kp F5,kr,zH fun _=>rfl,kp F8,kp F9,kp F10,kp F11,zH fun h=>(by obtain ⟨F,k1,k2,k3⟩:=(F12.out (h.resolve_right (by decide)));exact ⟨F,k1,k2,fun hd=>k3 (hd.resolve_right (by decide))⟩),zH fun h=>⟨Or.inl ((F13.out (h.resolve_right (by decide)))).1,((F13.out (h.resolve_right (by decide)))).2⟩,kp F14⟩⟩
            | 8,hi,hA,HD =>
              obtain rfl:=Option.some.inj hi;subst e0;clear hi
              clear hA
              go_wp2
              rw [HJ.out]
              exact ⟨fun h=>absurd (h.resolve_right (by decide)) HLL.out,fun _=>⟨_,_,_,_,_,_,_,_,_,_,_,_,_,_,_,rfl,Hb,kp F0,kp F1,kp F2,kp F3,kp F4,kp F5,kp F6,kp F7,zH fun _=>rfl,kp F9,kp F10,kp F11,zH fun h=>(by obtain ⟨F,k1,k2,k3⟩:=(F12.out (h.resolve_right (by decide)));exact ⟨F,k1,k2,fun hd=>k3 (hd.resolve_right (by decide))⟩),zH fun h=>⟨Or.inl ((F13.out (h.resolve_right (by decide)))).1,((F13.out (h.resolve_right (by decide)))).2⟩,kp F14⟩⟩
            | 9,hi,hA,HD =>
              obtain rfl:=Option.some.inj hi;subst e0;clear hi
              have d7:=t0x hA 7 (by decide +kernel);have d8:=t0x hA 8 (by decide +kernel);clear hA
              obtain rfl:=F7.out d7
              obtain rfl:=F8.out d8
              go_wp2
              rw [HJ.out]
              exact ⟨fun h=>absurd (h.resolve_right (by decide)) HLL.out,fun _=>⟨_,_,_,_,_,_,_,_,_,_,_,_,_,_,_,rfl,Hb,kp F0,kp F1,kp F2,kp F3,kp F4,kp F5,kp F6,kr,kr,zH fun _=>rfl,kp F10,kp F11,zH fun h=>(by obtain ⟨F,k1,k2,k3⟩:=(F12.out (h.resolve_right (by decide)));exact ⟨F,k1,k2,fun hd=>k3 (hd.resolve_right (by decide))⟩),zH fun h=>⟨Or.inl ((F13.out (h.resolve_right (by decide)))).1,((F13.out (h.resolve_right (by decide)))).2⟩,kp F14⟩⟩
            | 10,hi,hA,HD =>
              obtain rfl:=Option.some.inj hi;subst e0;clear hi
              have d9:=t0x hA 9 (by decide +kernel);clear hA
              obtain rfl:=F9.out d9
              go_wp2
              rw [HJ.out]
              exact ⟨fun h=>absurd (h.resolve_right (by decide)) HLL.out,fun _=>⟨_,_,_,_,_,_,_,_,_,_,_,_,_,_,_,rfl,Hb,kp F0,kp F1,kp F2,kp F3,kp F4,kp F5,kp F6,kp F7,kp F8,kr,zH fun _=>rfl,kp F11,zH fun h=>(by obtain ⟨F,k1,k2,k3⟩:=(F12.out (h.resolve_right (by decide)));exact ⟨F,k1,k2,fun hd=>k3 (hd.resolve_right (by decide))⟩),zH fun h=>⟨Or.inl ((F13.out (h.resolve_right (by decide)))).1,((F13.out (h.resolve_right (by decide)))).2⟩,kp F14⟩⟩
            | 11,hi,hA,HD =>
              obtain rfl:=Option.some.inj hi;subst e0;clear hi
              have d10:=t0x hA 10 (by decide +kernel);clear hA
              obtain rfl:=F10.out d10
              have hrr:=Hcell.out _ Hb.out
              have v2:=(t0o (hrr 2 _ rfl)).2;have v3:=(t0o (hrr 3 _ rfl)).2;have v4:=(t0o (hrr 4 _ rfl)).2;have v5:=(t0o (hrr 5 _ rfl)).2;have v6:=(t0o (hrr 6 _ rfl)).2;have v7:=(t0o (hrr 7 _ rfl)).2;have v8:=(t0o (hrr 8 _ rfl)).2
              clear hrr
              go_wp2
              rw [HJ.out]
              exact ⟨fun h=>absurd (h.resolve_right (by decide)) HLL.out,fun _=>⟨_,_,_,_,_,_,_,_,_,_,_,_,_,_,_,rfl,Hb,kp F0,kp F1,kp F2,kp F3,kp F4,kp F5,kp F6,kp F7,kp F8,kp F9,kr,zH fun _=>rfl,zH fun h=>(by obtain ⟨F,k1,k2,k3⟩:=(F12.out (h.resolve_right (by decide)));exact ⟨F,k1,k2,fun hd=>k3 (hd.resolve_right (by decide))⟩),zH fun h=>⟨Or.inl ((F13.out (h.resolve_right (by decide)))).1,((F13.out (h.resolve_right (by decide)))).2⟩,kp F14⟩⟩
            | 12,hi,hA,HD =>
              obtain rfl:=Option.some.inj hi;subst e0;clear hi
              have d11:=t0x hA 11 (by decide +kernel);clear hA
              obtain rfl:=F11.out d11
              have hO1 : Old GG w'.heap.size:=HolG.out.mono Hb.out.size
              have hV1 : VW (we GG w') (.agg #[.int .i64 e0.res.kind,.int .i64 e0.res.num,.string e0.res.text,.slice x1 e0.res.kids.length x2,.slice x3 e0.res.keys.length x4,.slice x5 e0.res.ents.length x6,.slice x7 e0.res.labels.length x8]) e0.res:=⟨d,_,rfl,Hres.out.below (by rw [t0e];exact t1e Hb.out)⟩
              obtain ⟨F,hF1,hF2,hF3,hF4⟩ : ∃ F : Nat → Bool,Old F w'.heap.size ∧ (∀ k,GG k = true → F k = true) ∧ (D 14 → ∀ g,s7 = .pointer (some ⟨g,0,none⟩) → F g = true) ∧ VW (we F w') (.agg #[.int .i64 e0.res.kind,.int .i64 e0.res.num,.string e0.res.text,.slice x1 e0.res.kids.length x2,.slice x3 e0.res.keys.length x4,.slice x5 e0.res.ents.length x6,.slice x7 e0.res.labels.length x8]) e0.res:=by
                by_cases h14 : D 14
                · obtain ⟨g,k1,k2,k3⟩:=F14.out h14
                  refine ⟨ex GG g,t2u hO1 (t0b k3),fun k hk=>by simp [ex,hk],fun _ g' hg'=>?_,?_⟩
                  · rw [k1] at hg';cases hg';simp [ex]
                  · exact ⟨d,_,rfl,Hres.out.below (t3b Hb.out k2)⟩
                · exact ⟨GG,hO1,fun _ h=>h,fun h=>absurd h h14,hV1⟩
              have HF2:=zH hF2;have HF3:=zH hF3
              have Hcl:=zH (Hcr.out F w' _ hF1 hF4)
              clear hF1 hF2 hF3 hF4 hO1 hV1
              go_wp2_with (go_at_call 17;refine Hcl.out.mono ?_;rintro e w5 ⟨v5,rfl,hx,hb5⟩;have HX:=zH (HZ.out ▸ hx);have HB:=zH hb5;clear hx hb5)
              rw [HJ.out]
              exact ⟨fun h=>absurd (h.resolve_right (by decide)) HLL.out,fun _=>⟨_,_,_,_,_,_,_,_,_,_,_,_,_,_,_,rfl,zH (Hb.out.trans (HB.out.mono Hb.out.size)),kp F0,kp F1,kp F2,kp F3,kp F4,kp F5,kp F6,kp F7,kp F8,kp F9,kp F10,kr,zH fun _=>⟨F,HX.out,HF2.out,fun hd=>HF3.out (hd.resolve_right (by decide))⟩,zH fun h=>absurd ((F13.out (h.resolve_right (by decide)))).1 HD.out,zH fun h=>(by obtain ⟨g,k1,k2,k3⟩:=(F14.out (h.resolve_right (by decide)));exact ⟨g,k1,k2,(HB.out.block _ (t0b k3)).trans k3⟩)⟩⟩
            | 13,hi,hA,HD =>
              obtain rfl:=Option.some.inj hi;subst e0;clear hi
              have d5:=t0x hA 5 (by decide +kernel);have d12:=t0x hA 12 (by decide +kernel);clear hA
              obtain rfl:=F5.out d5
              obtain ⟨F,⟨dv,cs,rfl,hx⟩,-,-⟩:=F12.out d12
              obtain ⟨z1,z2,z3,z4,z5,z6,z7,z8,rfl⟩:=hx.seven
              clear hx
              go_wp2
              rw [HJ.out]
              exact ⟨fun h=>absurd (h.resolve_right (by decide)) HLL.out,fun _=>⟨_,_,_,_,_,_,_,_,_,_,_,_,_,_,_,rfl,Hb,kp F0,kp F1,kp F2,kp F3,kp F4,kr,kp F6,kp F7,kp F8,kp F9,kp F10,kp F11,zH fun h=>(by obtain ⟨F,k1,k2,k3⟩:=(F12.out (h.resolve_right (by decide)));exact ⟨F,k1,k2,fun hd=>k3 (hd.resolve_right (by decide))⟩),zH fun _=>⟨Or.inl d12,_,_,_,_,_,_,_,_,rfl,rfl⟩,kp F14⟩⟩
            | 14,hi,hA,HD =>
              obtain rfl:=Option.some.inj hi;subst e0;clear hi
              clear hA
              go_wp2
              have HB:=zH ((Below.refl w'.heap.size w').alloc (Nat.le_refl _) (.cells #[.slice none 0 0,.bool false,.int .i64 0,.int .i64 0,.string ⟨#[]⟩,.slice none 0 0,.slice none 0 0,.slice none 0 0,.slice none 0 0] 55))
              rw [HJ.out]
              exact ⟨fun h=>absurd (h.resolve_right (by decide)) HLL.out,fun _=>⟨_,_,_,_,_,_,_,_,_,_,_,_,_,_,_,rfl,zH (Hb.out.trans (HB.out.mono Hb.out.size)),kp F0,kp F1,kp F2,kp F3,kp F4,kp F5,kp F6,kp F7,kp F8,kp F9,kp F10,kp F11,zH fun h=>(by obtain ⟨F,k1,k2,k3⟩:=(F12.out (h.resolve_right (by decide)));exact ⟨ex F w'.heap.size,k1.below (t3b HB.out (Nat.le_refl _)),fun k hk=>by simp [ex,k2 k hk],fun _ g hg=>by cases hg;simp [ex]⟩),zH fun h=>⟨Or.inl ((F13.out (h.resolve_right (by decide)))).1,((F13.out (h.resolve_right (by decide)))).2⟩,zH fun _=>⟨_,rfl,Hb.out.size,heap_alloc_new _ _⟩⟩⟩
            | 15,hi,hA,HD =>
              obtain rfl:=Option.some.inj hi;subst e0;clear hi
              have dd:=t7a hA (n:=15) (by decide +kernel)
              have d12:=dd 12 (by decide);have d13:=dd 13 (by decide);have d14:=dd 14 (by decide);clear hA
              obtain ⟨-,z1,z2,z3,z4,z5,z6,z7,z8,rfl,rfl⟩:=F13.out d13
              obtain ⟨g,rfl,hgq,hg⟩:=F14.out d14
              obtain ⟨F,hx,hF2,hF3⟩:=F12.out d12
              have hFg:=hF3 d14 g rfl
              have Hg:=zH hg
              obtain ⟨dv,hvz⟩:=vs_of hx
              have HX:=zH hvz
              have HF2:=zH hF2;have HFg:=zH hFg
              clear hx hF2 hF3 hFg hg hvz
              go_wp2_with (with_reducible refine wpList_store_row rfl 55 (.tmp 7) (.tmp 48) rfl _ _ rfl rfl _ _ Hg.out (by kernel_rfl) (by kernel_rfl) (by kernel_rfl) ?_)
              have Hnew:=zH (show VS (we (ex GG g) (w'.setRow g #[.slice none 0 0,.bool e0.fails,.int .i64 Z.kind,.int .i64 Z.num,.string Z.text,.slice z1 Z.kids.length z2,.slice z3 Z.keys.length z4,.slice z5 Z.ents.length z6,.slice z7 Z.labels.length z8])) _ Z _ from (HX.out.below (by rw [t0e];exact t3o HFg.out _)).sub (t2f _ fun k hk=>by simp only [ex,Bool.or_eq_true,beq_iff_eq] at hk;rcases hk with hk | rfl;exact HF2.out k hk;exact HFg.out))
              rw [HJ.out]
              exact ⟨fun _=>⟨fun k hk=>.inl (dd k hk),_,_,_,_,_,_,_,_,_,_,_,_,_,_,_,rfl,⟨_,_,_,_,_,_,_,_,g,_,rfl,hgq,setRow_heap _ _ _ _ _ _ Hg.out,Hnew.out,t7b Hb.out hgq _⟩⟩,fun h=>absurd (.inr rfl) h⟩
            | n + 16,hi,hA,HD=>cases hi
          · intro D ac w' hall hJ
            rw [HJ.out] at hJ
            obtain ⟨-,s35,s36,s37,s38,s39,s40,s41,s42,s43,s44,s45,s46,s47,s48,s7,rfl,hfin⟩:=hJ.1 (hall 15 (by decide))
            clear hall hJ
            obtain ⟨z1,z2,z3,z4,z5,z6,z7,z8,be,dv,rfl,hbe,hEB,hZV,hb5⟩:=hfin
            have HEB:=zH hEB;have HZV:=zH hZV;have Hb5:=zH hb5
            have hbl : be < w'.heap.size:=t0b hEB
            have hwq5 : wq.heap.size ≤ w'.heap.size:=hb5.size
            have HO2:=zH (t2u (x:=be) (HolG.out.mono hb5.size) hbl)
            have Hres2:=zH (fun (X : VV) (cs : List Value) (h : VS (we E w) d X cs)=>(h.below Hgi.out).below (t3b Hb5.out hbe))
            clear hEB hZV hb5
            go_wp2
            go_loopw [8] (fun kv wi=>∃ (k : Nat) (ys : List Value) (av : Value) (da : Nat),kv = .int .i64 (k : Int) ∧ k ≤ e0.args.length ∧ wi.heap[be]? = some (.cells #[av,.bool e0.fails,.int .i64 Z.kind,.int .i64 Z.num,.string Z.text,.slice z1 Z.kids.length z2,.slice z3 Z.keys.length z4,.slice z5 Z.ents.length z6,.slice z7 Z.labels.length z8] 55) ∧ wi.ownsRow w'.heap.size 28 7 av k ys ∧ Ch 7 (VS (we (gE (ex GG be) w'.heap.size w'.heap.size av) wi) da) ((e0.args.take k).map ulV) ys ∧ Below w'.heap.size (we (ex GG be) w') (we (ex GG be) wi) ∧ Below wq.heap.size wq wi) (fun kv _=>e0.args.length - (intOf kv).toNat)
            case atStart=>exact ⟨0,[],.slice none 0 0,0,rfl,by omega,HEB.out,World.ownsRow_nil _ _ _ _,Ch.nil,Below.refl _ _,Hb5.out⟩
            case round =>
              obtain ⟨k,ys,av,da,rfl,hk,hbx,hoa,hca,hin,hbi⟩:=hrel
              obtain ⟨pv,cv,rfl⟩:=t0m hoa
              obtain ⟨⟨g0,g1,g2,g3⟩,⟨g4,g5,g6,g7⟩,g8⟩:=t1p hbx
              have Hbx:=zH hbx;have Hoa:=zH hoa;have Hca:=zH hca;have Hin:=zH hin;have Hbi:=zH hbi
              have hszi : w'.heap.size ≤ wr.heap.size:=by have:=hin.size;rwa [t0e,t0e] at this
              have r0:=(t0o (Hcell.out _ hbi 0 _ rfl)).2
              rw [Nat.add_zero] at r0
              obtain ⟨⟨f0,f1,f2,f3⟩,f4,f5,f6⟩:=t0j ((hbi.block _ (t0b HAw.out)).trans HAw.out)
              clear hbx hoa hca hin hbi
              obtain ⟨wi,hwi⟩ : ∃ wi : World,wi = wr:=⟨_,rfl⟩
              subst hwi
              by_cases hkl2 : k < e0.args.length
              · have d10 : decide (k < e0.args.length) = true:=by simp [hkl2]
                obtain ⟨aa,oa,ca',rfl,haa,-,hrange2,hXa⟩:=Hargs.out.all hkl2
                have haa' : aa < w.heap.size:=by rwa [t0e] at haa
                obtain ⟨x1',x2',x3',x4',x5',x6',x7',x8',rfl⟩:=hXa.seven
                have hrg:=hrange2 _ (Hgi.out.trans (by rw [t0e];exact (t1e Hbi.out).mono (by omega)))
                have s0:=(t0o (hrg 0 _ rfl)).2;have s1:=(t0o (hrg 1 _ rfl)).2;have s2:=(t0o (hrg 2 _ rfl)).2;have s3:=(t0o (hrg 3 _ rfl)).2;have s4:=(t0o (hrg 4 _ rfl)).2;have s5:=(t0o (hrg 5 _ rfl)).2;have s6:=(t0o (hrg 6 _ rfl)).2
                rw [Nat.add_zero] at s0
                have Hold3:=zH (tbi (A:=w'.heap.size) (B:=w'.heap.size) HO2.out hszi hszi Hoa.out)
                have Hg2:=zH (tka (v:=.slice pv k cv) Hin.out fun g hg=>(Hoa.out.lt g hg).1)
                have Hcl:=zH (Hax.out e0.args[k] (List.getElem_mem hkl2) (gE (ex GG be) w'.heap.size w'.heap.size (.slice pv k cv)) wi.drew _ Hold3.out ⟨d,_,rfl,((Hres2.out _ _ hXa).below Hg2.out).below (by rw [t0e];exact t1e (Below.refl _ _).drew)⟩)
                have Htm2:=zH (tao ulV hkl2)
                clear hrg hrange2 hXa
                generalize ulV e0.args[k] = Y at *
                generalize e0.args[k] = X at *
                have Ye1:=zH (show wi.drew.cell? ⟨be,0,none⟩ = _ from g0)
                have Ye2:=zH (show wi.drew.cell? ⟨w.heap.size,5,none⟩ = _ from f5)
                have Ye3:=zH (show wi.drew.cell? ⟨a,o + j * 9,none⟩ = _ from r0)
                have Ye4:=zH (show wi.drew.cell? ⟨aa,oa + k * 7,none⟩ = _ from s0)
                go_wp2_with (first
                  | ((with_reducible refine Lex.t0z ?_);refine fE (by repeat first | exact LexK.t0v | refine LexK.t0p rfl ?_ | refine LexK.t0q (by decide +kernel) ?_ | refine LexK.t0c rfl (by exact hbl) Ye1.out ?_ | refine LexK.t0c rfl (by omega) Ye2.out ?_ | refine LexK.t0c rfl (by omega) Ye3.out ?_ | refine LexK.t0c rfl (by omega) Ye4.out ?_) ?_)
                  | ((with_reducible refine Lex.t0r ?_);refine LexK.t0i (fun x=>x < w'.heap.size) (by kernel_rfl) (by decide +kernel) ?_)
                  | (with_reducible first | refine qH ?_ | refine LexK.t0u ?_ | refine LexK.t0y ?_)
                  | ((with_reducible refine Lex.t1c ?_);first | (refine LexK.t0f hex5.out ?_) | (refine LexK.t0f hex8.out ?_) | (refine LexK.t0f (LexK.Ext.alloc _ _) ?_) | (refine LexK.t0f (LexK.Ext.refl _) ?_))
                  | (go_at_call 17;refine Hcl.out.mono ?_;rintro e w5 ⟨v5,rfl,hx,hb5⟩;obtain ⟨dy,cs,rfl,hx⟩:=hx;obtain ⟨y1,y2,y3,y4,y5,y6,y7,y8,rfl⟩:=hx.seven;have HX:=zH hx;have Hone:=zH hx.one;have hb5':=(Below.refl wi.heap.size wi).drew.trans hb5;have Hbi5:=zH hb5';have hex5:=zH (show LexK.Ext (fun x=>x < w'.heap.size) wi.drew w5 from tfa (hb5.mono (show w'.heap.size ≤ wi.drew.heap.size from hszi)));have Hoa5:=zH (t0d Hoa.out hb5' (Nat.le_refl _));have hw5 : w'.heap.size ≤ w5.heap.size:=(Nat.le_trans hszi hb5'.size);clear hx hb5 hb5')
                  | (at_builtin;go_loud (refine t0k rfl (.tmp 61) (.tmp 72) 23 rfl 28 (by kernel_rfl) t1s rfl (by decide) (by decide) w'.heap.size _ w5.heap.size [.int .i64 Y.kind,.int .i64 Y.num,.string Y.text,.slice y1 Y.kids.length y2,.slice y3 Y.keys.length y4,.slice y5 Y.ents.length y6,.slice y7 Y.labels.length y8] (heap_alloc_new w5 _) (Nat.le_trans hw5 (by simp)) rfl Hone.out (.slice pv k cv) k ys rfl (t0d Hoa5.out ((Below.refl _ _).alloc (Nat.le_refl _) _) (Nat.le_refl _)) (by omega) rfl ?_);intro v8 w8 ho8 hf8;have hb8:=(hf8.below (Nat.le_trans hw5 (by simp)) (by simp) fun g hg=>(Hoa5.out.lt g hg).1);have hex8:=zH (show LexK.Ext (fun x=>x < w'.heap.size) (w5.alloc (.cells #[.int .i64 Y.kind,.int .i64 Y.num,.string Y.text,.slice y1 Y.kids.length y2,.slice y3 Y.keys.length y4,.slice y5 Y.ents.length y6,.slice y7 Y.labels.length y8] 28)) w8 from tfa hb8);have hb58:=(((Below.refl w5.heap.size w5).alloc (Nat.le_refl _) (.cells #[.int .i64 Y.kind,.int .i64 Y.num,.string Y.text,.slice y1 Y.kids.length y2,.slice y3 Y.keys.length y4,.slice y5 Y.ents.length y6,.slice y7 Y.labels.length y8] 28)).mono hw5 |>.trans hb8);have Hb58:=zH hb58;obtain ⟨p8,c8,rfl⟩:=t0m ho8;have Ho8:=zH ho8;have Hf8:=zH hf8;have hB8:=(hb58.block be hbl).trans ((Hbi5.out.block _ (by omega)).trans Hbx.out);have HB8:=zH hB8;have hz0 : w8.cell? ⟨be,0,none⟩ = some (.slice pv k cv):=(by simp [World.cell?,hB8]);have hz1 : w8.frozen? ⟨be,0,none⟩ = false:=(by simp [World.frozen?,hB8]);clear ho8 hf8 hb8 hb58 hB8))
                have HU9:=zH (show Upd be (.cells #[.slice p8 (k + 1) c8,.bool e0.fails,.int .i64 Z.kind,.int .i64 Z.num,.string Z.text,.slice z1 Z.kids.length z2,.slice z3 Z.keys.length z4,.slice z5 Z.ents.length z6,.slice z7 Z.labels.length z8] 55) w8 (w8.setCell ⟨be,0,none⟩ (.slice p8 (k + 1) c8)) from Upd.cast (Upd.set (i:=0) (v:=.slice p8 (k + 1) c8) (Upd.refl HB8.out)) rfl)
                have hgb : gE (ex GG be) w'.heap.size w'.heap.size (.slice p8 (k + 1) c8) be = true:=by simp [gE,ex]
                have hcA:=tfb Hca.out Hbi5.out HX.out Hf8.out
                rw [← Htm2.out] at hcA
                exact ⟨⟨k + 1,ys ++ [.int .i64 Y.kind,.int .i64 Y.num,.string Y.text,.slice y1 Y.kids.length y2,.slice y3 Y.keys.length y4,.slice y5 Y.ents.length y6,.slice y7 Y.labels.length y8],.slice p8 (k + 1) c8,max da dy,by first | rfl | go_num | (congr 1),by omega,HU9.out.blk,t1r Ho8.out HU9.out hbl,hcA.mono fun x cs _ h=>h.below (by rw [t0e];exact t1j HU9.out hgb),Hin.out.trans ((t1e (Hbi5.out.mono hszi)).trans ((t1e Hb58.out).trans (t1j HU9.out (by simp [ex])))),Hbi.out.trans ((Hbi5.out.mono (by omega)).trans ((Hb58.out.mono (by omega)).trans (HU9.out.below (by omega))))⟩,by simp [intOf];omega⟩
              · have d10 : decide (k < e0.args.length) = false:=by simp;omega
                obtain rfl : k = e0.args.length:=by omega
                have hfull : (e0.args.take e0.args.length).map ulV = e0.args.map ulV:=by rw [List.take_length]
                have hc2:=Hca.out
                rw [hfull] at hc2
                have hlen : (e0.args.map ulV).length = e0.args.length:=by simp
                have hlessG : ∀ k,GG k = true → gE (ex GG be) w'.heap.size w'.heap.size (.slice pv e0.args.length cv) k = true:=fun k hk=>by simp [gE,ex,hk]
                have hlessE : ∀ k,GG k = true → ex GG be k = true:=fun k hk=>by simp [ex,hk]
                obtain ⟨pv',cv',ev,hrw⟩:=t1k (l:=e0.args.map ulV) (t1o (E:=GG) (by rw [hlen];exact Hoa.out) (HolG.out.mono hwq5)) (hc2.mono fun x cs _ h=>h.sub (t2f _ hlessG)) (by simp;omega)
                rw [hlen] at ev
                injection ev with ev1 _ ev3
                subst ev1 ev3
                have hzr : VS (we GG wi) dv Z [.int .i64 Z.kind,.int .i64 Z.num,.string Z.text,.slice z1 Z.kids.length z2,.slice z3 Z.keys.length z4,.slice z5 Z.ents.length z6,.slice z7 Z.labels.length z8]:=(HZV.out.below (by rw [t0e];exact Hin.out)).sub (t2f _ hlessE)
                have hye : Ye = .mk (e0.args.map ulV) e0.fails Z:=Hue.out
                have HXE:=zH (show ES (we GG wi) (max da dv) Ye [.slice pv e0.args.length cv,.bool e0.fails,.int .i64 Z.kind,.int .i64 Z.num,.string Z.text,.slice z1 Z.kids.length z2,.slice z3 Z.keys.length z4,.slice z5 Z.ents.length z6,.slice z7 Z.labels.length z8] by
                  rw [hye]
                  exact ⟨pv,cv,_,by rw [show (EE.mk (e0.args.map ulV) e0.fails Z).args.length = e0.args.length from hlen];rfl,hrw.mono fun _ _ _ h=>h.up (Nat.le_max_left _ _),hzr.up (Nat.le_max_right _ _)⟩)
                have HoneE:=zH (show ∀ u ∈ ([.slice pv e0.args.length cv,.bool e0.fails,.int .i64 Z.kind,.int .i64 Z.num,.string Z.text,.slice z1 Z.kids.length z2,.slice z3 Z.keys.length z4,.slice z5 Z.ents.length z6,.slice z7 Z.labels.length z8] : List Value),u.oneCell' = true by intro u hu;simp only [List.mem_cons,List.not_mem_nil,or_false] at hu;rcases hu with rfl | rfl | rfl | rfl | rfl | rfl | rfl | rfl | rfl <;> rfl)
                have HoL:=zH (t0d Ho.out Hbi.out (Nat.le_refl _))
                have hszw : (w.heap.size + 2) ≤ wi.heap.size:=by omega
                clear hfull hc2 hlen hlessG hlessE hrw hzr hye
                go_wp2_with (at_builtin;go_loud (refine t0k rfl (.tmp 75) (.tmp 77) 25 rfl 55 (by kernel_rfl) t2h rfl (by decide) (by decide) (w.heap.size + 2) _ wi.heap.size [.slice pv e0.args.length cv,.bool e0.fails,.int .i64 Z.kind,.int .i64 Z.num,.string Z.text,.slice z1 Z.kids.length z2,.slice z3 Z.keys.length z4,.slice z5 Z.ents.length z6,.slice z7 Z.labels.length z8] (heap_alloc_new wi _) (Nat.le_trans hszw (by simp)) rfl HoneE.out (.slice pl j cl) j xs rfl (t0d HoL.out ((Below.refl _ _).alloc (Nat.le_refl _) _) (Nat.le_refl _)) (by omega) rfl ?_);intro v9 w9 ho9 hf9;have Hf9:=zH hf9;have hb9:=(hf9.below (Nat.le_trans hszw (by simp)) (by simp) fun g hg=>(HoL.out.lt g hg).1);have Hb9:=zH (((Below.refl wi.heap.size wi).alloc (Nat.le_refl _) (.cells #[.slice pv e0.args.length cv,.bool e0.fails,.int .i64 Z.kind,.int .i64 Z.num,.string Z.text,.slice z1 Z.kids.length z2,.slice z3 Z.keys.length z4,.slice z5 Z.ents.length z6,.slice z7 Z.labels.length z8] 55)).mono hszw |>.trans hb9);have Ho9:=zH ho9;clear ho9 hf9 hb9)
                have hG:=HGG.out
                subst hG
                have hal : Below (we (gE E w.heap.size (w.heap.size + 2) (.slice pl j cl)) wi).heap.size (we (gE E w.heap.size (w.heap.size + 2) (.slice pl j cl)) wi) (we (gE E w.heap.size (w.heap.size + 2) (.slice pl j cl)) (wi.alloc (.cells #[.slice pv e0.args.length cv,.bool e0.fails,.int .i64 Z.kind,.int .i64 Z.num,.string Z.text,.slice z1 Z.kids.length z2,.slice z3 Z.keys.length z4,.slice z5 Z.ents.length z6,.slice z7 Z.labels.length z8] 55))):=by rw [t0e];exact t1e ((Below.refl _ _).alloc (Nat.le_refl _) _)
                have hwi : Below (we (gE E w.heap.size (w.heap.size + 2) (.slice pl j cl)) wq).heap.size (we (gE E w.heap.size (w.heap.size + 2) (.slice pl j cl)) wq) (we (gE E w.heap.size (w.heap.size + 2) (.slice pl j cl)) wi):=by rw [t0e];exact t1e Hbi.out
                have hcB:=tit (Hc.out.mono fun x cs _ h=>h.below hwi) HXE.out rfl Hf9.out
                rw [← Htm.out] at hcB
                have hkB : Rw (we (gE E w.heap.size (w.heap.size + 2) (v9)) w9) pk ck 7 (V.kids.map ulV) (VS (we (gE E w.heap.size (w.heap.size + 2) (v9)) w9) dk):=((Hk.out.below hwi fun _ _ _ h=>h.below hwi).below hal fun _ _ _ h=>h.below hal).sub (t7w Hf9.out) fun _ _ _ h=>h.sub (t7w Hf9.out)
                exact ⟨⟨j + 1,xs ++ [.slice pv e0.args.length cv,.bool e0.fails,.int .i64 Z.kind,.int .i64 Z.num,.string Z.text,.slice z1 Z.kids.length z2,.slice z3 Z.keys.length z4,.slice z5 Z.ents.length z6,.slice z7 Z.labels.length z8],max de (max da dv),dk,by first | rfl | go_num | (congr 1),by omega,Ho9.out,hcB,hkB,(Hb9.out.block _ (by omega)).trans ((Hbi.out.block _ (t0b HAr.out)).trans HAr.out),(Hb9.out.block _ (by omega)).trans ((Hbi.out.block _ (t0b HBr.out)).trans HBr.out),Hbr.out.trans ((Hbi.out.mono (by omega)).trans (Hb9.out.mono (by omega)))⟩,by simp [intOf];omega⟩
        · have d9 : decide (j < V.ents.length) = false:=by simp;omega
          obtain rfl : j = V.ents.length:=by omega
          have hfull : (V.ents.take V.ents.length).map ulE = V.ents.map ulE:=by rw [List.take_length]
          have hc2:=Hc.out
          rw [hfull] at hc2
          have hlen : (V.ents.map ulE).length = V.ents.length:=by simp
          obtain ⟨pl',cl',el,hrw⟩:=t1k (l:=V.ents.map ulE) (t1o (E:=(gE E w.heap.size (w.heap.size + 2) (.slice none 0 0))) (by rw [hlen];exact Ho.out) (tan HE.out (by omega))) (hc2.mono fun x cs _ h=>h.sub (t9w _ _ _ _ _)) (by simp;omega)
          rw [hlen] at el
          injection el with el1 _ el3
          subst el1 el3
          have Hen:=zH (tek (gE E w.heap.size (w.heap.size + 2) (.slice none 0 0)) (V.ents.map ulE) wr (.slice pl V.ents.length cl) ((tan HE.out (by omega)).mono hsz2) ⟨de,pl,cl,by rw [hlen],hrw⟩ (by simp;omega))
          have Hk0:=zH (Hk.out.sub (t9w _ _ _ _ _) fun _ _ _ h=>h.sub (t9w _ _ _ _ _))
          clear hfull hc2 hlen hrw f0 f1 f2 f3 f4 f6
          go_upto_region 19 with (go_at_call 35;refine Hen.out.mono ?_;rintro e w5 ⟨v5,rfl,⟨d5,p5,c5,rfl,h5⟩,hb5⟩;have H5:=zH h5;have Hb5:=zH hb5;have HA5:=zH ((hb5.block _ (t0b HAr.out)).trans HAr.out);have y5 : w5.cell? ⟨w.heap.size,5,none⟩ = some (.slice q3 V.ents.length c3):=(by simp [World.cell?,HA5.out]);have y7 : w5.frozen? ⟨w.heap.size,5,none⟩ = false:=(by simp [World.frozen?,HA5.out]);clear h5 hb5)
          have HU5:=zH (show Upd w.heap.size (.cells #[.int .i64 V.kind,.int .i64 V.num,.string V.text,.slice pk V.kids.length ck,.slice q2 V.keys.length c2,.slice p5 (entsE (V.ents.map ulE)).length c5,.slice none 0 0] 28) w5 (w5.setCell ⟨w.heap.size,5,none⟩ (.slice p5 (entsE (V.ents.map ulE)).length c5)) from Upd.cast (Upd.set (i:=5) (v:=.slice p5 (entsE (V.ents.map ulE)).length c5) (Upd.refl HA5.out)) rfl)
          clear y5 y7 f5
          generalize w5.setCell ⟨w.heap.size,5,none⟩ (.slice p5 (entsE (V.ents.map ulE)).length c5) = w6 at *
          have hb1 : (gE E w.heap.size (w.heap.size + 2) (.slice none 0 0)) w.heap.size = true:=gE_b (Nat.le_refl _) (by omega)
          have hb2 : (gE E w.heap.size (w.heap.size + 2) (.slice none 0 0)) (w.heap.size + 1) = true:=gE_b (by omega) (by omega)
          have h56 : Below (we (gE E w.heap.size (w.heap.size + 2) (.slice none 0 0)) w5).heap.size (we (gE E w.heap.size (w.heap.size + 2) (.slice none 0 0)) w5) (we (gE E w.heap.size (w.heap.size + 2) (.slice none 0 0)) w6):=by rw [t0e];exact t1j HU5.out hb1
          have h15 : Below (we (gE E w.heap.size (w.heap.size + 2) (.slice none 0 0)) wr).heap.size (we (gE E w.heap.size (w.heap.size + 2) (.slice none 0 0)) wr) (we (gE E w.heap.size (w.heap.size + 2) (.slice none 0 0)) w5):=by rw [t0e];exact t1e Hb5.out
          have He6:=zH (H5.out.below h56 fun _ _ _ h=>h.below h56)
          have Hk6:=zH ((Hk0.out.below h15 fun _ _ _ h=>h.below h15).below h56 fun _ _ _ h=>h.below h56)
          have HZ6:=zH ((HU5.out.other _ (by omega)).trans ((Hb5.out.block _ (t0b HBr.out)).trans HBr.out))
          have hbw6 : Below w.heap.size w w6:=(Hbr.out.trans (Hb5.out.mono (by omega))).trans (HU5.out.below (Nat.le_refl _))
          have Hy6:=zH (HY.out.below (gE_in (B:=(w.heap.size + 2)) (v:=.slice none 0 0) hbw6 fun g hg=>(tfc g hg).elim) fun _ _ _ h=>h)
          have Hbw6:=zH hbw6
          obtain ⟨⟨f0,f1,f2,f3⟩,f4,f5,f6⟩:=t0j HU5.out.blk
          have Hb2':=zH hb2
          clear h56 h15 hbw6 hb1 hb2
          go_wp2_with (with_reducible refine wpList_store_row rfl 28 (.tmp 2) (.tmp 82) rfl _ _ rfl rfl _ _ HZ6.out (by kernel_rfl) (by kernel_rfl) (by kernel_rfl) ?_)
          refine bodyPost_ret (results_cell_row rfl _ _ (w.heap.size + 1) 28 _ (0,0) _ rfl (setRow_heap _ _ _ _ _ _ HZ6.out) rfl rfl (by kernel_rfl)) rfl ?_
          have hfin : VW (we (gE E w.heap.size (w.heap.size + 2) (.slice none 0 0)) w6) (.agg #[.int .i64 V.kind,.int .i64 V.num,.string V.text,.slice pk V.kids.length ck,.slice q2 V.keys.length c2,.slice p5 (entsE (V.ents.map ulE)).length c5,.slice none 0 0]) (ulV V):=by
            rw [t5f]
            exact ⟨max d5 dk + 1,_,rfl,pk,ck,q2,c2,p5,c5,none,0,by rw [show (VV.mk V.kind V.num V.text (V.kids.map ulV) V.keys (entsE (V.ents.map ulE)) []).kids.length = V.kids.length by simp [VV.kids]];rfl,Hk6.out.mono fun _ _ _ h=>h.up (Nat.le_max_right _ _),Hy6.out,He6.out.mono fun _ _ _ h=>h.up (Nat.le_max_left _ _),Rw.nil _ _ _ _ _⟩
          exact ⟨_,rfl,(hfin.below (by rw [t0e];exact t3o Hb2'.out _)).sub (tjp _ _ _ _ _),t7b Hbw6.out (by omega) _⟩
theorem tel : ∀ (n : Nat) (V : VV),V.ht ≤ n → Shrt V → UL V:=by
  intro n
  induction n with
  | zero=>intro V h;have:=t3m V;omega
  | succ n ih=>intro V h hS;exact tdx V hS fun X hX hSX=>ih X (by omega) hSX
theorem tem {V : VV} (hS : Shrt V) : UL V:=tel V.ht V (Nat.le_refl _) hS
end Go.Proofs.YtjgldaaofdpcgaaGreat
