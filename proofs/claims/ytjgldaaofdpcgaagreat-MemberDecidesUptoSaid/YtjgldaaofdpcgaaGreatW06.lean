/- Walks and plain facts for the laws of membership, for all values and types that the heap holds (texts M1 M2 M3). -/
import Derived.Deep.MidRow
import Derived.Test.YtjgldaaofdpcgaaGreatW02
import Derived.Test.YtjgldaaofdpcgaaGreatW03
import Derived.Test.YtjgldaaofdpcgaaGreatW05
set_option linter.unusedVariables false
set_option linter.unusedSimpArgs false
namespace Go.Proofs.YtjgldaaofdpcgaaGreat
open Go.RowKit
set_option maxRecDepth 100000

def Rw {α : Type} (w : World) (p : Option Addr) (c sz : Nat) (l : List α) (P : α → List Value → Prop) : Prop :=
  (l.length ≤ c ∧ l.length ≤ 9223372036854775807) ∧ ∃ cs,RC w sz p l.length cs ∧ ∀ i (h : i < l.length),P l[i] ((cs.drop (i * sz)).take sz)
theorem Rw.below {α : Type} {w w' : World} {p : Option Addr} {c sz : Nat} {l : List α} {P P' : α → List Value → Prop} (h : Rw w p c sz l P) (hb : Below w.heap.size w w') (hP : ∀ x cs,x ∈ l → P x cs → P' x cs) : Rw w' p c sz l P':=by
  obtain ⟨h1,cs,h2,h3⟩:=h
  exact ⟨h1,cs,h2.below hb,fun i hi=>hP _ _ (List.getElem_mem hi) (h3 i hi)⟩
theorem Rw.big {α : Type} {w : World} {p : Option Addr} {c sz : Nat} {l : List α} {P : α → List Value → Prop} (h : Rw w p c sz l P) : l.length ≤ 9223372036854775807:=h.1.2
theorem Rw.mono {α : Type} {w : World} {p : Option Addr} {c sz : Nat} {l : List α} {P P' : α → List Value → Prop} (h : Rw w p c sz l P) (hP : ∀ x cs,x ∈ l → P x cs → P' x cs) : Rw w p c sz l P':=h.below (Below.refl _ _) hP
theorem Rw.nil {α : Type} (w : World) (p : Option Addr) (c sz : Nat) (P : α → List Value → Prop) : Rw w p c sz [] P:=⟨by simp,[],RC.nil _ _ _,fun i h=>by simp at h⟩
theorem Rw.at {α : Type} {w : World} {p : Option Addr} {c sz : Nat} {l : List α} {P : α → List Value → Prop} (h : Rw w p c sz l P) {i : Nat} (hi : i < l.length) :
    ∃ a o cs,p = some ⟨a,o,none⟩ ∧ a < w.heap.size ∧ cs.length = sz ∧ w.rangeAt a (o + i * sz) cs ∧ P l[i] cs:=by
  obtain ⟨h1,cs,h2,h3⟩:=h
  obtain ⟨a,o,e1,e2,e3⟩:=h2.2 (by omega)
  have hl:=h2.1
  have hle : (i + 1) * sz ≤ l.length * sz:=Nat.mul_le_mul_right _ hi
  rw [Nat.add_mul,Nat.one_mul] at hle
  refine ⟨a,o,_,e1,e2,by rw [List.length_take,List.length_drop];omega,fun j v hv=>?_,h3 i hi⟩
  have:=e3 (i * sz + j) v (by
    rw [List.getElem?_take] at hv
    split at hv
    · rwa [List.getElem?_drop] at hv
    · cases hv)
  rw [← Nat.add_assoc] at this
  exact this
theorem ted {w w' : World} {a o : Nat} {cs : List Value} (hb : Below w.heap.size w w') (ha : a < w.heap.size) (h : w.rangeAt a o cs) : w'.rangeAt a o cs:=fun j v hv=>(hb.cell (p:=⟨a,_,none⟩) ha).trans (h j v hv)
theorem Rw.all {α : Type} {w : World} {p : Option Addr} {c sz : Nat} {l : List α} {P : α → List Value → Prop} (h : Rw w p c sz l P) {i : Nat} (hi : i < l.length) :
    ∃ a o cs,p = some ⟨a,o,none⟩ ∧ a < w.heap.size ∧ cs.length = sz ∧ (∀ w',Below w.heap.size w w' → w'.rangeAt a (o + i * sz) cs) ∧ P l[i] cs:=by
  obtain ⟨a,o,cs,h1,h2,h3,h4,h5⟩:=h.at hi
  exact ⟨a,o,cs,h1,h2,h3,fun w' hb=>ted hb h2 h4,h5⟩
def KC (k : KK) (cs : List Value) : Prop:=cs = [.int .i64 k.kind,.string k.text]
def SC (s : ByteArray) (cs : List Value) : Prop:=cs = [.string s]
def VS (w : World) : Nat → VV → List Value → Prop
  | 0,_,_=>False
  | d + 1,V,cs=>∃ p1 c1 p2 c2 p3 c3 p4 c4,cs = [.int .i64 V.kind,.int .i64 V.num,.string V.text,.slice p1 V.kids.length c1,.slice p2 V.keys.length c2,.slice p3 V.ents.length c3,.slice p4 V.labels.length c4] ∧
      Rw w p1 c1 7 V.kids (VS w d) ∧ Rw w p2 c2 2 V.keys KC ∧
      Rw w p3 c3 9 V.ents (fun e cs=>∃ pa ca rs,cs = (.slice pa e.args.length ca) :: .bool e.fails :: rs ∧ Rw w pa ca 7 e.args (VS w d) ∧ VS w d e.res rs) ∧ Rw w p4 c4 1 V.labels SC
def ES (w : World) (d : Nat) (e : EE) (cs : List Value) : Prop:=∃ pa ca rs,cs = (.slice pa e.args.length ca) :: .bool e.fails :: rs ∧ Rw w pa ca 7 e.args (VS w d) ∧ VS w d e.res rs
theorem VS.succ {w : World} {d : Nat} {V : VV} {cs : List Value} : VS w (d + 1) V cs ↔ ∃ p1 c1 p2 c2 p3 c3 p4 c4, cs = [.int .i64 V.kind, .int .i64 V.num, .string V.text, .slice p1 V.kids.length c1, .slice p2 V.keys.length c2, .slice p3 V.ents.length c3, .slice p4 V.labels.length c4] ∧
      Rw w p1 c1 7 V.kids (VS w d) ∧ Rw w p2 c2 2 V.keys KC ∧ Rw w p3 c3 9 V.ents (ES w d) ∧ Rw w p4 c4 1 V.labels SC:=Iff.rfl
theorem VS.below {w w' : World} (hb : Below w.heap.size w w') : ∀ {d : Nat} {V : VV} {cs : List Value},VS w d V cs → VS w' d V cs:=by
  intro d
  induction d with
  | zero=>intro V cs h;exact h
  | succ d ih =>
    intro V cs h
    obtain ⟨p1,c1,p2,c2,p3,c3,p4,c4,e,h1,h2,h3,h4⟩:=h
    refine ⟨p1,c1,p2,c2,p3,c3,p4,c4,e,h1.below hb fun _ _ _ h=>ih h,h2.below hb fun _ _ _ h=>h,h3.below hb fun e cs _ h=>?_,h4.below hb fun _ _ _ h=>h⟩
    obtain ⟨pa,ca,rs,e1,e2,e3⟩:=h
    exact ⟨pa,ca,rs,e1,e2.below hb fun _ _ _ h=>ih h,ih e3⟩
theorem ES.below {w w' : World} (hb : Below w.heap.size w w') {d : Nat} {e : EE} {cs : List Value} (h : ES w d e cs) : ES w' d e cs:=by
  obtain ⟨pa,ca,rs,e1,e2,e3⟩:=h
  exact ⟨pa,ca,rs,e1,e2.below hb fun _ _ _ h=>h.below hb,e3.below hb⟩
theorem VS.up {w : World} : ∀ {d e : Nat} {V : VV} {cs : List Value},VS w d V cs → d ≤ e → VS w e V cs:=by
  intro d
  induction d with
  | zero=>intro e V cs h;exact h.elim
  | succ d ih =>
    intro e V cs h hde
    obtain ⟨e,rfl⟩ : ∃ e',e = e' + 1:=⟨e - 1,by omega⟩
    obtain ⟨p1,c1,p2,c2,p3,c3,p4,c4,e1,h1,h2,h3,h4⟩:=h
    refine ⟨p1,c1,p2,c2,p3,c3,p4,c4,e1,h1.mono fun _ _ _ h=>ih h (by omega),h2,h3.mono fun e cs _ h=>?_,h4⟩
    obtain ⟨pa,ca,rs,e1,e2,e3⟩:=h
    exact ⟨pa,ca,rs,e1,e2.mono fun _ _ _ h=>ih h (by omega),ih e3 (by omega)⟩
theorem VS.len {w : World} {d : Nat} {V : VV} {cs : List Value} (h : VS w d V cs) : cs.length = 7:=by
  cases d with
  | zero=>exact h.elim
  | succ d=>obtain ⟨p1,c1,p2,c2,p3,c3,p4,c4,rfl,_⟩:=h;rfl
def VW (w : World) (v : Value) (V : VV) : Prop:=∃ d cs,v = .agg cs.toArray ∧ VS w d V cs
theorem VW.below {w w' : World} {v : Value} {V : VV} (h : VW w v V) (hb : Below w.heap.size w w') : VW w' v V:=by
  obtain ⟨d,cs,e,h⟩:=h;exact ⟨d,cs,e,h.below hb⟩
def FC (f : FF) (cs : List Value) : Prop:=cs = [.int .i64 f.key.kind,.string f.key.text,.int .i64 f.node,.bool f.opt]
def NC (w : World) (n : TN) (cs : List Value) : Prop:=∃ p1 c1 p2 c2,cs = [.int .i64 n.kind,.int .i64 n.lo,.int .i64 n.hi,.string n.text,.slice p1 n.kids.length c1,.slice p2 n.fields.length c2,.int .i64 n.rest0,.int .i64 n.rest1] ∧
  IS w (.slice p1 n.kids.length c1) n.kids ∧ Rw w p2 c2 4 n.fields FC
def TS (w : World) (v : Value) (T : Ty) : Prop:=∃ p c,v = .agg #[.slice p T.nodes.length c,.int .i64 T.root] ∧ Rw w p c 8 T.nodes (NC w) ∧ ∀ n ∈ T.nodes,n.kids.length ≤ 9223372036854775807
theorem NC.below {w w' : World} {n : TN} {cs : List Value} (h : NC w n cs) (hb : Below w.heap.size w w') : NC w' n cs:=by
  obtain ⟨p1,c1,p2,c2,e,h1,h2⟩:=h
  exact ⟨p1,c1,p2,c2,e,h1.below hb,h2.below hb fun _ _ _ h=>h⟩
theorem TS.below {w w' : World} {v : Value} {T : Ty} (h : TS w v T) (hb : Below w.heap.size w w') : TS w' v T:=by
  obtain ⟨p,c,e,h,h2⟩:=h
  exact ⟨p,c,e,h.below hb fun _ _ _ h=>h.below hb,h2⟩
end Go.Proofs.YtjgldaaofdpcgaaGreat
namespace Go.Proofs.YtjgldaaofdpcgaaGreat
open Go.RowKit
set_option maxRecDepth 100000
def ER (b : Bool) (w : World) (e : Ending) (w' : World) : Prop:=e = .returned (.bool b) ∧ Below w.heap.size w w'
def HasC (T : Ty) (V : VV) (k : Int) : Prop:=∀ (w : World) (v t : Value),VW w v V → TS w t T → Calls Tryz.prog 30 #[v,t,.int .i64 k] w (ER (mem T V k) w)
theorem tgf {s : VV → Int → Bool} {l : List VV} {ks : List Int} {i : Nat} (hi : i < l.length) (hk : i < ks.length) : ((l.take (i + 1)).zip (ks.take (i + 1))).all (fun p=>s p.1 p.2) = (((l.take i).zip (ks.take i)).all (fun p=>s p.1 p.2) && s l[i] ks[i]):=by
  rw [List.take_succ_eq_append_getElem hi,List.take_succ_eq_append_getElem hk,List.zip_append (by rw [List.length_take,List.length_take];omega)]
  simp
def KS (w : World) (v : Value) (l : List VV) : Prop:=∃ d p c,v = .slice p l.length c ∧ Rw w p c 7 l (VS w d)
theorem KS.below {w w' : World} {v : Value} {l : List VV} (h : KS w v l) (hb : Below w.heap.size w w') : KS w' v l:=by
  obtain ⟨d,p,c,e,h⟩:=h
  exact ⟨d,p,c,e,h.below hb fun _ _ _ h=>h.below hb⟩
theorem VS.seven {w : World} {d : Nat} {V : VV} {cs : List Value} (h : VS w d V cs) : ∃ p1 c1 p2 c2 p3 c3 p4 c4,cs = [.int .i64 V.kind,.int .i64 V.num,.string V.text,.slice p1 V.kids.length c1,.slice p2 V.keys.length c2,.slice p3 V.ents.length c3,.slice p4 V.labels.length c4]:=by
  cases d with
  | zero=>exact h.elim
  | succ d=>obtain ⟨p1,c1,p2,c2,p3,c3,p4,c4,e,_⟩:=h;exact ⟨p1,c1,p2,c2,p3,c3,p4,c4,e⟩
theorem t0f {w : World} {b : Nat} {e : TypeId} {fr : Nat × Nat} {s0 s1 s2 s3 s4 s5 s6 : Value} (h : w.heap[b]? = some (.cells #[s0,s1,s2,s3,s4,s5,s6] e fr)) :
    (w.cell? ⟨b,0,none⟩ = some s0 ∧ w.cell? ⟨b,1,none⟩ = some s1 ∧ w.cell? ⟨b,2,none⟩ = some s2 ∧ w.cell? ⟨b,3,none⟩ = some s3) ∧ (w.cell? ⟨b,4,none⟩ = some s4 ∧ w.cell? ⟨b,5,none⟩ = some s5 ∧ w.cell? ⟨b,6,none⟩ = some s6):=by simp [World.cell?,h]
theorem t0k {w : World} {b : Nat} {e : TypeId} {fr : Nat × Nat} {s0 s1 : Value} (h : w.heap[b]? = some (.cells #[s0,s1] e fr)) : w.cell? ⟨b,0,none⟩ = some s0 ∧ w.cell? ⟨b,1,none⟩ = some s1:=by simp [World.cell?,h]
set_option maxHeartbeats 16000000 in
theorem tev (T : Ty) (l : List VV) (ks : List Int) (w : World) (vl t vk : Value) (hl : KS w vl l) (ht : TS w t T) (hk : IS w vk ks) (hm : ks.length ≤ 1000)
    (hc : ∀ x ∈ l,∀ k ∈ ks,HasC T x k) : Calls Tryz.prog 56 #[vl,t,vk] w (ER (all2 (mem T) l ks) w):=by
  have HT:=zH ht
  have HK:=zH hk
  have Hc:=zH hc
  obtain ⟨d,pl,cl,rfl,hrl⟩:=hl
  have Hrl:=zH hrl
  obtain ⟨pt,ct,rfl,-⟩:=ht
  obtain ⟨pk,ck,rfl,-,-⟩:=hk
  clear hrl hc
  go_enter Tryz.func56,Tryz.ntmps56
  by_cases hlen : l.length = ks.length
  · have d0 : ((l.length : Int) != (ks.length : Int)) = false:=by simp [hlen]
    go_upto_region 3 with fail
    have Hb2:=zH ((Below.refl w.heap.size w).alloc (Nat.le_refl _) (.cells #[.slice pt T.nodes.length ct,.int .i64 T.root] 31))
    have Hbx:=zH (heap_alloc_new w (.cells #[.slice pt T.nodes.length ct,.int .i64 T.root] 31))
    have Hlen:=zH hlen
    clear hlen d0
    generalize w.alloc (.cells #[.slice pt T.nodes.length ct,.int .i64 T.root] 31) = w2 at *
    have Hrl2:=zH (show Rw w2 pl cl 7 l (VS w2 d) from Hrl.out.below Hb2.out fun _ _ _ h=>h.below Hb2.out)
    have HK2:=zH (HK.out.below Hb2.out)
    have HT2:=zH (HT.out.below Hb2.out)
    have hbt:=t0a Hbx.out
    go_wp2
    go_loopw [16] (fun i wr=>∃ k : Nat,i = .int .i64 k ∧ k ≤ l.length ∧ ((l.take k).zip (ks.take k)).all (fun p=>mem T p.1 p.2) = true ∧ Below w2.heap.size w2 wr) (fun i _=>l.length - (intOf i).toNat)
    case atStart=>exact ⟨0,rfl,by omega,by simp,Below.refl _ _⟩
    case round =>
      obtain ⟨k,rfl,hk,ha,hb⟩:=hrel
      have Ha:=zH ha;have Hb:=zH hb;clear ha hb
      by_cases hll : k < l.length
      · have hlt : k < ks.length:=by have:=Hlen.out;omega
        obtain ⟨a,o,cs,rfl,hab,hcs,hrng,hP⟩:=Hrl2.out.all hll
        obtain ⟨q1,e1,q2,e2,q3,e3,q4,e4,rfl⟩:=hP.seven
        have hr:=hrng wr Hb.out
        have z0:=hr 0 _ rfl
        have z1:=hr 1 _ rfl
        have z2:=hr 2 _ rfl
        have z3:=hr 3 _ rfl
        have z4:=hr 4 _ rfl
        have z5:=hr 5 _ rfl
        have z6:=hr 6 _ rfl
        obtain ⟨-,ak,ok,rfl,hak,zk⟩:=(HK2.out.below Hb.out).at hlt
        have Hnext:=zH (tgf (s:=mem T) hll hlt)
        have Hcall:=zH (Hc.out _ (List.getElem_mem hll) _ (List.getElem_mem hlt))
        have HP:=zH (hP.below Hb.out)
        rw [Nat.add_zero] at z0
        clear hr hrng hP hcs
        generalize l[k] = X at *
        generalize ks[k] = kx at *
        obtain ⟨wo,hwo⟩ : ∃ wo : World,wo = wr:=⟨_,rfl⟩
        subst hwo
        go_upto_region 6 with fail
        have hnb:=heap_alloc_new wo (.cells #[.int .i64 X.kind,.int .i64 X.num,.string X.text,.slice q1 X.kids.length e1,.slice q2 X.keys.length e2,.slice q3 X.ents.length e3,.slice q4 X.labels.length e4] 28)
        have ho : Below wo.heap.size wo (wo.alloc (.cells #[.int .i64 X.kind,.int .i64 X.num,.string X.text,.slice q1 X.kids.length e1,.slice q2 X.keys.length e2,.slice q3 X.ents.length e3,.slice q4 X.labels.length e4] 28)):=(Below.refl _ _).alloc (Nat.le_refl _) _
        generalize wo.alloc (.cells #[.int .i64 X.kind,.int .i64 X.num,.string X.text,.slice q1 X.kids.length e1,.slice q2 X.keys.length e2,.slice q3 X.ents.length e3,.slice q4 X.labels.length e4] 28) = w5 at *
        have hb5:=Hb.out.step ho
        have Hb5:=zH hb5.drew
        have Hvw:=zH (show VW w5.drew (.agg #[.int .i64 X.kind,.int .i64 X.num,.string X.text,.slice q1 X.kids.length e1,.slice q2 X.keys.length e2,.slice q3 X.ents.length e3,.slice q4 X.labels.length e4]) X from ⟨d,_,rfl,HP.out.below ho.drew⟩)
        have Htw:=zH (HT2.out.below Hb5.out)
        obtain ⟨⟨y0,y1,y2,y3⟩,y4,y5,y6⟩:=t0f hnb
        obtain ⟨x0,x1⟩:=t0k ((hb5.block _ hbt).trans Hbx.out)
        have zk5:=(ho.cell (p:=⟨ak,_,none⟩) hak).trans zk
        clear z0 z1 z2 z3 z4 z5 z6 zk hnb ho hb5
        cases hmv : mem T X kx with
        | true =>
          have Hmv:=zH hmv
          rw [hmv,Ha.out] at Hnext
          clear hmv
          generalize wo.heap.size = bo at *
          go_wp2_with (first
            | (with_reducible refine rg ?_)
            | (with_reducible refine fo ?_)
            | (go_at_call 30;refine (Hcall.out _ _ _ Hvw.out Htw.out).mono ?_;rintro e w6 ⟨rfl,hb6⟩;rw [Hmv.out];have Hb6:=zH (Hb5.out.step hb6);clear hb6))
          exact ⟨⟨k + 1,by go_num,by omega,Hnext.out,Hb6.out⟩,by simp [intOf];omega⟩
        | false =>
          have Hmv:=zH hmv
          have hno : all2 (mem T) l ks = false:=by
            unfold all2
            rw [Bool.and_eq_false_iff]
            right
            rw [Bool.eq_false_iff]
            intro hall
            have:=Hnext.out
            rw [hmv,Bool.and_false] at this
            rw [Bool.eq_false_iff] at this
            refine this ?_
            rw [List.all_eq_true] at hall ⊢
            intro p hp
            exact hall p (by
              rw [List.zip,← List.take_zipWith] at hp
              exact List.mem_of_mem_take hp)
          have Hno:=zH hno
          clear hmv hno
          generalize wo.heap.size = bo at *
          go_wp2_with (first
            | (with_reducible refine rg ?_)
            | (with_reducible refine fo ?_)
            | (go_at_call 30;refine (Hcall.out _ _ _ Hvw.out Htw.out).mono ?_;rintro e w6 ⟨rfl,hb6⟩;rw [Hmv.out];have Hb6:=zH (Hb5.out.step hb6);clear hb6))
          go_ret
          rw [Hno.out]
          exact ⟨rfl,Hb2.out.trans (Hb6.out.mono (Nat.le_of_lt hbt))⟩
      · obtain rfl : k = l.length:=by omega
        have hyes : all2 (mem T) l ks = true:=by
          unfold all2
          rw [Bool.and_eq_true]
          refine ⟨by rw [decide_eq_true_eq];exact Hlen.out,?_⟩
          have:=Ha.out
          rwa [List.take_length,List.take_of_length_le (by rw [Hlen.out];exact Nat.le_refl _)] at this
        have Hyes:=zH hyes
        clear hyes
        go_wp2
        go_ret
        rw [Hyes.out]
        exact ⟨rfl,Hb2.out.trans (Hb.out.mono (Nat.le_of_lt hbt))⟩
  · have d0 : ((l.length : Int) != (ks.length : Int)) = true:=by simp;omega
    have Hno:=zH (show all2 (mem T) l ks = false by unfold all2;simp [hlen])
    have Hb2:=zH ((Below.refl w.heap.size w).alloc (Nat.le_refl _) (.cells #[.slice pt T.nodes.length ct,.int .i64 T.root] 31))
    clear hlen
    go_wp2
    go_ret
    rw [Hno.out]
    exact ⟨rfl,Hb2.out⟩
end Go.Proofs.YtjgldaaofdpcgaaGreat
namespace Go.Proofs.YtjgldaaofdpcgaaGreat
open Go.RowKit
set_option maxRecDepth 100000
theorem t3a {α : Type} {p : α → Bool} {L : List α} {k : Nat} (h : k < L.length) : (L.take (k + 1)).any p = ((L.take k).any p || p L[k]):=by
  rw [List.take_succ_eq_append_getElem h,List.any_append];simp
theorem t4v {α : Type} {p : α → Bool} {L : List α} {k : Nat} (h : (L.take k).any p = true) : L.any p = true:=by
  rw [List.any_eq_true] at h ⊢
  obtain ⟨x,hx,hp⟩:=h
  exact ⟨x,List.mem_of_mem_take hx,hp⟩
def BV (w : World) (b : Nat) (V : VV) : Prop:=∃ d s0 s1 s2 s3 s4 s5 s6,w.heap[b]? = some (.cells #[s0,s1,s2,s3,s4,s5,s6] 28) ∧ VS w d V [s0,s1,s2,s3,s4,s5,s6]
def BT (w : World) (b : Nat) (T : Ty) : Prop:=∃ s0 s1,w.heap[b]? = some (.cells #[s0,s1] 31) ∧ TS w (.agg #[s0,s1]) T
theorem BV.below {w w' : World} {b : Nat} {V : VV} (h : BV w b V) (hb : Below w.heap.size w w') : BV w' b V:=by
  obtain ⟨d,s0,s1,s2,s3,s4,s5,s6,h1,h2⟩:=h
  exact ⟨d,s0,s1,s2,s3,s4,s5,s6,(hb.block _ (t0a h1)).trans h1,h2.below hb⟩
theorem BT.below {w w' : World} {b : Nat} {T : Ty} (h : BT w b T) (hb : Below w.heap.size w w') : BT w' b T:=by
  obtain ⟨s0,s1,h1,h2⟩:=h
  exact ⟨s0,s1,(hb.block _ (t0a h1)).trans h1,h2.below hb⟩
def XI {α : Type} (p : α → Bool) (L : List α) (w : World) (e : Ending) (w' : World) : Prop :=
  ∃ i : Int,e = .returned (.int .i64 i) ∧ decide (0 ≤ i) = L.any p ∧ (0 ≤ i → ∃ k : Nat,i = (k : Int) ∧ ∃ h : k < L.length,p L[k] = true) ∧ Below w.heap.size w w'
set_option maxHeartbeats 4000000 in
theorem tgg (T : Ty) (V : VV) (x : Int) (w : World) (bv bt : Nat) (hv : BV w bv V) (ht : BT w bt T) (hc : HasC T V x) :
    Calls Tryz.prog 60 #[.int .i64 x,.pointer (some ⟨bv,0,none⟩),.pointer (some ⟨bt,0,none⟩)] w (ER (mem T V x) w):=by
  obtain ⟨d,s0,s1,s2,s3,s4,s5,s6,h1,h2⟩:=hv
  obtain ⟨t0,t1,g1,g2⟩:=ht
  have Hc:=zH (hc w (.agg #[s0,s1,s2,s3,s4,s5,s6]) (.agg #[t0,t1]) ⟨d,_,rfl,h2⟩ g2)
  obtain ⟨⟨y0,y1,y2,y3⟩,y4,y5,y6⟩:=t0f h1
  obtain ⟨x0,x1⟩:=t0k g1
  clear h1 h2 g1 g2 hc
  generalize mem T V x = b at *
  go_enter Tryz.func60,Tryz.ntmps60
  go_wp2_with (go_at_call 30;refine Hc.out.mono ?_;rintro e w6 ⟨rfl,hb6⟩;have Hb6:=zH hb6;clear hb6)
  go_ret
  exact ⟨rfl,Hb6.out⟩
set_option maxHeartbeats 4000000 in
theorem tde (T : Ty) (V : VV) (L : List Int) (w : World) (v : Value) (bv bt : Nat) (hl : IS w v L) (hL : L.length ≤ 9223372036854775807) (hv : BV w bv V) (ht : BT w bt T) (hc : ∀ x ∈ L,HasC T V x) :
    Calls Tryz.prog 36 #[v,.func (.func 60) #[] #[.pointer (some ⟨bv,0,none⟩),.pointer (some ⟨bt,0,none⟩)]] w (XI (fun x=>mem T V x) L w):=by
  have HL:=zH hl;have HV:=zH hv;have HT:=zH ht;have Hc:=zH hc
  obtain ⟨q,cq,rfl,hq,hrc⟩:=hl
  clear hrc hv ht hc
  go_enter Tryz.func36,Tryz.ntmps36
  go_wp2
  go_loopw [8] (fun i wr=>∃ k : Nat,i = .int .i64 k ∧ k ≤ L.length ∧ (L.take k).any (fun x=>mem T V x) = false ∧ Below w.heap.size w wr) (fun i _=>L.length - (intOf i).toNat)
  case atStart=>exact ⟨0,rfl,by omega,by simp,Below.refl _ _⟩
  case round =>
    obtain ⟨k,rfl,hk,ha,hb⟩:=hrel
    have Ha:=zH ha;have Hb:=zH hb;clear ha hb
    by_cases hlt : k < L.length
    · obtain ⟨-,a,o,rfl,hab,z0⟩:=(HL.out.below Hb.out).at hlt
      have hst:=t3a (p:=(fun x=>mem T V x)) hlt
      have hany : (L.take (k + 1)).any (fun x=>mem T V x) = true → L.any (fun x=>mem T V x) = true:=t4v
      have Hcl:=zH (tgg T V L[k] wr bv bt (HV.out.below Hb.out) (HT.out.below Hb.out) (Hc.out _ (List.getElem_mem hlt)))
      rw [Ha.out,Bool.false_or] at hst
      cases hx : mem T V L[k] with
      | true =>
        have Hx:=zH (show ∃ j : Nat,((k : Nat) : Int) = (j : Int) ∧ ∃ h : j < L.length,(fun x=>mem T V x) L[j] = true from ⟨k,rfl,hlt,by simp [hx]⟩)
        have Hst:=zH (hany (by rw [hst];simp [hx]))
        have hcl:=Hcl.out
        rw [hx] at hcl
        have Hcl:=zH hcl
        generalize L[k] = x at *
        clear hst hany hx hcl
        go_wp2_with (go_at_call 60;refine Hcl.out.mono ?_;rintro e w6 ⟨rfl,hb6⟩;have Hb6:=zH (Hb.out.step hb6);clear hb6)
        go_ret
        exact ⟨_,rfl,by rw [Hst.out];simp,fun _=>Hx.out,Hb6.out⟩
      | false =>
        have hcl:=Hcl.out
        rw [hx] at hcl
        have hst2 : (L.take (k + 1)).any (fun x=>mem T V x) = false:=by rw [hst];simp [hx]
        have Hcl:=zH hcl;have Hst:=zH hst2
        generalize L[k] = x at *
        clear hst hst2 hany hx hcl
        go_wp2_with (go_at_call 60;refine Hcl.out.mono ?_;rintro e w6 ⟨rfl,hb6⟩;have Hb6:=zH (Hb.out.step hb6);clear hb6)
        exact ⟨⟨k + 1,by go_num,by omega,Hst.out,Hb6.out⟩,by simp [intOf];omega⟩
    · obtain rfl : k = L.length:=by omega
      have Ha':=zH (show L.any (fun x=>mem T V x) = false by have:=Ha.out;rwa [List.take_length] at this)
      go_wp2
      go_ret
      exact ⟨-1,rfl,by rw [Ha'.out];rfl,fun h=>absurd h (by decide),Hb.out⟩
set_option maxHeartbeats 4000000 in
theorem tee (T : Ty) (V : VV) (L : List Int) (w : World) (v : Value) (bv bt : Nat) (hl : IS w v L) (hL : L.length ≤ 9223372036854775807) (hv : BV w bv V) (ht : BT w bt T) (hc : ∀ x ∈ L,HasC T V x) :
    Calls Tryz.prog 59 #[v,.func (.func 60) #[] #[.pointer (some ⟨bv,0,none⟩),.pointer (some ⟨bt,0,none⟩)]] w (ER (L.any (fun x=>mem T V x)) w):=by
  have Hc:=zH (tde T V L w v bv bt hl hL hv ht hc)
  obtain ⟨q,cq,rfl,hq,hrc⟩:=hl
  clear hc hrc hv ht
  go_enter Tryz.func59,Tryz.ntmps59
  go_wp2_with (go_at_call 36;refine Hc.out.mono ?_;rintro e w' ⟨i,rfl,hi,-,hb⟩;have Hb:=zH hb;have Hi:=zH hi;clear hi hb)
  go_ret
  rw [← Hi.out]
  exact ⟨rfl,Hb.out⟩
set_option maxHeartbeats 4000000 in
theorem tgh (T : Ty) (V : VV) (x : Int) (w : World) (bv bt : Nat) (hv : BV w bv V) (ht : BT w bt T) (hc : HasC T V x) :
    Calls Tryz.prog 61 #[.int .i64 x,.pointer (some ⟨bv,0,none⟩),.pointer (some ⟨bt,0,none⟩)] w (ER (!mem T V x) w):=by
  obtain ⟨d,s0,s1,s2,s3,s4,s5,s6,h1,h2⟩:=hv
  obtain ⟨t0,t1,g1,g2⟩:=ht
  have Hc:=zH (hc w (.agg #[s0,s1,s2,s3,s4,s5,s6]) (.agg #[t0,t1]) ⟨d,_,rfl,h2⟩ g2)
  obtain ⟨⟨y0,y1,y2,y3⟩,y4,y5,y6⟩:=t0f h1
  obtain ⟨x0,x1⟩:=t0k g1
  clear h1 h2 g1 g2 hc
  generalize mem T V x = b at *
  go_enter Tryz.func61,Tryz.ntmps61
  go_wp2_with (go_at_call 30;refine Hc.out.mono ?_;rintro e w6 ⟨rfl,hb6⟩;have Hb6:=zH hb6;clear hb6)
  go_ret
  exact ⟨rfl,Hb6.out⟩
set_option maxHeartbeats 4000000 in
theorem tdf (T : Ty) (V : VV) (L : List Int) (w : World) (v : Value) (bv bt : Nat) (hl : IS w v L) (hL : L.length ≤ 9223372036854775807) (hv : BV w bv V) (ht : BT w bt T) (hc : ∀ x ∈ L,HasC T V x) :
    Calls Tryz.prog 36 #[v,.func (.func 61) #[] #[.pointer (some ⟨bv,0,none⟩),.pointer (some ⟨bt,0,none⟩)]] w (XI (fun x=>!mem T V x) L w):=by
  have HL:=zH hl;have HV:=zH hv;have HT:=zH ht;have Hc:=zH hc
  obtain ⟨q,cq,rfl,hq,hrc⟩:=hl
  clear hrc hv ht hc
  go_enter Tryz.func36,Tryz.ntmps36
  go_wp2
  go_loopw [8] (fun i wr=>∃ k : Nat,i = .int .i64 k ∧ k ≤ L.length ∧ (L.take k).any (fun x=>!mem T V x) = false ∧ Below w.heap.size w wr) (fun i _=>L.length - (intOf i).toNat)
  case atStart=>exact ⟨0,rfl,by omega,by simp,Below.refl _ _⟩
  case round =>
    obtain ⟨k,rfl,hk,ha,hb⟩:=hrel
    have Ha:=zH ha;have Hb:=zH hb;clear ha hb
    by_cases hlt : k < L.length
    · obtain ⟨-,a,o,rfl,hab,z0⟩:=(HL.out.below Hb.out).at hlt
      have hst:=t3a (p:=(fun x=>!mem T V x)) hlt
      have hany : (L.take (k + 1)).any (fun x=>!mem T V x) = true → L.any (fun x=>!mem T V x) = true:=t4v
      have Hcl:=zH (tgh T V L[k] wr bv bt (HV.out.below Hb.out) (HT.out.below Hb.out) (Hc.out _ (List.getElem_mem hlt)))
      rw [Ha.out,Bool.false_or] at hst
      cases hx : mem T V L[k] with
      | false =>
        have Hx:=zH (show ∃ j : Nat,((k : Nat) : Int) = (j : Int) ∧ ∃ h : j < L.length,(fun x=>!mem T V x) L[j] = true from ⟨k,rfl,hlt,by simp [hx]⟩)
        have Hst:=zH (hany (by rw [hst];simp [hx]))
        have hcl:=Hcl.out
        rw [hx] at hcl
        have Hcl:=zH hcl
        generalize L[k] = x at *
        clear hst hany hx hcl
        go_wp2_with (go_at_call 61;refine Hcl.out.mono ?_;rintro e w6 ⟨rfl,hb6⟩;have Hb6:=zH (Hb.out.step hb6);clear hb6)
        go_ret
        exact ⟨_,rfl,by rw [Hst.out];simp,fun _=>Hx.out,Hb6.out⟩
      | true =>
        have hcl:=Hcl.out
        rw [hx] at hcl
        have hst2 : (L.take (k + 1)).any (fun x=>!mem T V x) = false:=by rw [hst];simp [hx]
        have Hcl:=zH hcl;have Hst:=zH hst2
        generalize L[k] = x at *
        clear hst hst2 hany hx hcl
        go_wp2_with (go_at_call 61;refine Hcl.out.mono ?_;rintro e w6 ⟨rfl,hb6⟩;have Hb6:=zH (Hb.out.step hb6);clear hb6)
        exact ⟨⟨k + 1,by go_num,by omega,Hst.out,Hb6.out⟩,by simp [intOf];omega⟩
    · obtain rfl : k = L.length:=by omega
      have Ha':=zH (show L.any (fun x=>!mem T V x) = false by have:=Ha.out;rwa [List.take_length] at this)
      go_wp2
      go_ret
      exact ⟨-1,rfl,by rw [Ha'.out];rfl,fun h=>absurd h (by decide),Hb.out⟩
set_option maxHeartbeats 4000000 in
theorem tef (T : Ty) (V : VV) (L : List Int) (w : World) (v : Value) (bv bt : Nat) (hl : IS w v L) (hL : L.length ≤ 9223372036854775807) (hv : BV w bv V) (ht : BT w bt T) (hc : ∀ x ∈ L,HasC T V x) :
    Calls Tryz.prog 59 #[v,.func (.func 61) #[] #[.pointer (some ⟨bv,0,none⟩),.pointer (some ⟨bt,0,none⟩)]] w (ER (L.any (fun x=>!mem T V x)) w):=by
  have Hc:=zH (tdf T V L w v bv bt hl hL hv ht hc)
  obtain ⟨q,cq,rfl,hq,hrc⟩:=hl
  clear hc hrc hv ht
  go_enter Tryz.func59,Tryz.ntmps59
  go_wp2_with (go_at_call 36;refine Hc.out.mono ?_;rintro e w' ⟨i,rfl,hi,-,hb⟩;have Hb:=zH hb;have Hi:=zH hi;clear hi hb)
  go_ret
  rw [← Hi.out]
  exact ⟨rfl,Hb.out⟩
end Go.Proofs.YtjgldaaofdpcgaaGreat
