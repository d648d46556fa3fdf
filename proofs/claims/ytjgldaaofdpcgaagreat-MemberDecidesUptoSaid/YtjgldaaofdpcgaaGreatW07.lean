/- Walks and plain facts for the laws of membership, for all values and types that the heap holds (texts M4). -/
import Derived.Laws.StructEq
import Derived.Test.YtjgldaaofdpcgaaGreatW03
import Derived.Test.YtjgldaaofdpcgaaGreatW06
set_option linter.unusedVariables false
set_option linter.unusedSimpArgs false
namespace Go.Proofs.YtjgldaaofdpcgaaGreat
open Go.RowKit
set_option maxRecDepth 100000
theorem part0 (k : Int) (t : ByteArray) (w : World) : (part 3 #[Value.int .i64 k,.string t] 0).run Tryz.prog w = .ok (.int .i64 k) w:=by kernel_rfl
theorem part1 (k : Int) (t : ByteArray) (w : World) : (part 9 #[Value.int .i64 k,.string t] 1).run Tryz.prog w = .ok (.string t) w:=by kernel_rfl
theorem t9e (s t : ByteArray) : (s.toList == t.toList) = decide (s = t):=by
  rw [Bool.eq_iff_iff,beq_iff_eq,decide_eq_true_eq]
  refine ⟨fun h=>?_,fun h=>by rw [h]⟩
  rw [ByteArray.toList_eq,ByteArray.toList_eq,Array.toList_inj] at h
  cases s;cases t;simp_all
theorem t4w (w : World) (a b : KK) : (binOp .eql 73 (.agg #[.int .i64 a.kind,.string a.text]) (.agg #[.int .i64 b.kind,.string b.text])).run Tryz.prog w = .ok (.bool (decide (a = b))) w:=by
  have e : decide (a = b) = (a.kind == b.kind && a.text.toList == b.text.toList):=by
    rw [t9e,Bool.eq_iff_iff,Bool.and_eq_true,decide_eq_true_eq,decide_eq_true_eq,beq_iff_eq]
    cases a;cases b;simp
  rw [e,run_eql_struct,run_equalIn_agg w 9999 73 _ _ (by kernel_rfl) (by kernel_rfl)]
  simp only [Program.fieldsOf,Tryz.underlying73]
  simp only [Op.eqFields]
  rw [if_pos (by decide),if_pos (by decide)]
  simp only [Sem.run_bind,part0,part1,Result.andThen_ok,run_equalIn_int w 9998 3 .i64 .i64 a.kind b.kind Tryz.underlying3]
  cases h : a.kind == b.kind with
  | false=>simp
  | true =>
    simp only [Bool.not_true,Bool.false_eq_true,if_false,Sem.run_bind,part1,Result.andThen_ok,run_equalIn_string w 9998 9 a.text b.text Tryz.underlying9]
    cases h2 : a.text.toList == b.text.toList <;> simp
def SS (w : World) (v : Value) (l : List ByteArray) : Prop:=∃ p c,v = .slice p l.length c ∧ Rw w p c 1 l SC
def KY (w : World) (v : Value) (l : List KK) : Prop:=∃ p c,v = .slice p l.length c ∧ Rw w p c 2 l KC
theorem SS.below {w w' : World} {v : Value} {l : List ByteArray} (h : SS w v l) (hb : Below w.heap.size w w') : SS w' v l:=by
  obtain ⟨p,c,e,h⟩:=h;exact ⟨p,c,e,h.below hb fun _ _ _ h=>h⟩
theorem KY.below {w w' : World} {v : Value} {l : List KK} (h : KY w v l) (hb : Below w.heap.size w w') : KY w' v l:=by
  obtain ⟨p,c,e,h⟩:=h;exact ⟨p,c,e,h.below hb fun _ _ _ h=>h⟩
theorem Rw.str {w : World} {p : Option Addr} {c : Nat} {l : List ByteArray} (h : Rw w p c 1 l SC) {k : Nat} (hk : k < l.length) : ∃ a o,p = some ⟨a,o,none⟩ ∧ a < w.heap.size ∧ w.cell? ⟨a,o + k,none⟩ = some (.string l[k]):=by
  obtain ⟨a,o,cs,h1,h2,h3,h4,rfl⟩:=h.at hk
  exact ⟨a,o,h1,h2,by simpa using h4 0 _ rfl⟩
theorem Rw.key {w : World} {p : Option Addr} {c : Nat} {l : List KK} (h : Rw w p c 2 l KC) {k : Nat} (hk : k < l.length) : ∃ a o,p = some ⟨a,o,none⟩ ∧ a < w.heap.size ∧ w.cell? ⟨a,o + k * 2,none⟩ = some (.int .i64 l[k].kind) ∧ w.cell? ⟨a,o + k * 2 + 1,none⟩ = some (.string l[k].text):=by
  obtain ⟨a,o,cs,h1,h2,h3,h4,rfl⟩:=h.at hk
  exact ⟨a,o,h1,h2,by simpa using h4 0 _ rfl,h4 1 _ rfl⟩
set_option maxHeartbeats 4000000 in
theorem tfi (v : Value) (l : List ByteArray) (s : ByteArray) (w : World) (hl : SS w v l) (hL : l.length ≤ 9223372036854775807) :
    Calls Tryz.prog 95 #[v,.string s] w (XI (fun x=>decide (x = s)) l w):=by
  obtain ⟨p,c,rfl,hr⟩:=hl
  have Hr:=zH hr;clear hr
  go_enter Tryz.func95,Tryz.ntmps95
  go_wp2
  go_loop [8] (fun i=>∃ k : Nat,i = .int .i64 k ∧ k ≤ l.length ∧ (l.take k).any (fun x=>decide (x = s)) = false) (fun i=>l.length - (intOf i).toNat)
  case atStart=>exact ⟨0,rfl,by omega,by simp⟩
  case round =>
    obtain ⟨k,rfl,hk,ha⟩:=hrel
    have Ha:=zH ha;clear ha
    by_cases hlt : k < l.length
    · obtain ⟨a,o,rfl,hab,z0⟩:=Hr.out.str hlt
      have hst:=t3a (p:=fun x=>decide (x = s)) hlt
      have hany : (l.take (k + 1)).any (fun x=>decide (x = s)) = true → l.any (fun x=>decide (x = s)) = true:=t4v
      rw [Ha.out,Bool.false_or] at hst
      have hse:=t9e s l[k]
      by_cases hx : l[k] = s
      · have Hx:=zH (show ∃ j : Nat,((k : Nat) : Int) = (j : Int) ∧ ∃ h : j < l.length,decide (l[j] = s) = true from ⟨k,rfl,hlt,by simp [hx]⟩)
        have Hst:=zH (hany (by rw [hst];simp [hx]))
        rw [decide_eq_true hx.symm] at hse
        generalize l[k] = x at *
        clear hst hany hx
        go_wp2
        go_ret
        exact ⟨_,rfl,by rw [Hst.out];simp,fun _=>Hx.out,Below.refl _ _⟩
      · have hst2 : (l.take (k + 1)).any (fun x=>decide (x = s)) = false:=by rw [hst];simp [hx]
        have Hst:=zH hst2
        rw [decide_eq_false fun h=>hx h.symm] at hse
        generalize l[k] = x at *
        clear hst hst2 hany hx
        go_wp2
        exact ⟨⟨k + 1,by go_num,by omega,Hst.out⟩,by simp [intOf];omega⟩
    · obtain rfl : k = l.length:=by omega
      have Ha':=zH (show l.any (fun x=>decide (x = s)) = false by have:=Ha.out;rwa [List.take_length] at this)
      go_wp2
      go_ret
      exact ⟨-1,rfl,by rw [Ha'.out];rfl,fun h=>absurd h (by decide),Below.refl _ _⟩
set_option maxHeartbeats 4000000 in
theorem tgi (v : Value) (l : List ByteArray) (s : ByteArray) (w : World) (hl : SS w v l) (hL : l.length ≤ 9223372036854775807) :
    Calls Tryz.prog 62 #[v,.string s] w (ER (l.any fun x=>decide (x = s)) w):=by
  have Hc:=zH (tfi v l s w hl hL)
  obtain ⟨p,c,rfl,hr⟩:=hl
  clear hr
  go_enter Tryz.func62,Tryz.ntmps62
  go_wp2_with (go_at_call 95;refine Hc.out.mono ?_;rintro e w' ⟨i,rfl,hi,-,hb⟩;have Hb:=zH hb;have Hi:=zH hi;clear hi hb)
  go_ret
  rw [← Hi.out]
  exact ⟨rfl,Hb.out⟩
set_option maxHeartbeats 8000000 in
theorem tfj (v : Value) (l : List KK) (s : KK) (w : World) (hl : KY w v l) (hL : l.length ≤ 9223372036854775807) :
    Calls Tryz.prog 117 #[v,.agg #[.int .i64 s.kind,.string s.text]] w (XI (fun x=>decide (x = s)) l w):=by
  have H:=zH hl
  obtain ⟨p,c,rfl,-⟩:=hl
  go_enter Tryz.func117,Tryz.ntmps117
  go_upto_region 1 with fail
  have hnb:=heap_alloc_new w (.cells #[.int .i64 s.kind,.string s.text] 73)
  have Hb:=zH ((Below.refl w.heap.size w).alloc (Nat.le_refl _) (.cells #[.int .i64 s.kind,.string s.text] 73))
  generalize w.alloc (.cells #[.int .i64 s.kind,.string s.text] 73) = w1 at *
  have Hnb:=zH hnb
  have hlt1:=t0a hnb
  clear hnb
  go_wp2
  go_loopw [8] (fun i wr=>∃ k : Nat,i = .int .i64 k ∧ k ≤ l.length ∧ (l.take k).any (fun x=>decide (x = s)) = false ∧ Below w1.heap.size w1 wr) (fun i _=>l.length - (intOf i).toNat)
  case atStart=>exact ⟨0,rfl,by omega,by simp,Below.refl _ _⟩
  case round =>
    obtain ⟨k,rfl,hk,ha,hb⟩:=hrel
    have Ha:=zH ha;have Hb1:=zH hb;have Hb2:=zH (Hb.out.step hb)
    obtain ⟨x0,x1⟩:=t0k ((hb.block _ hlt1).trans Hnb.out)
    clear ha hb
    by_cases hlt : k < l.length
    · obtain ⟨p',c',e9,hr⟩:=H.out.below Hb2.out
      injection e9 with e1 _ e3
      subst e1 e3
      obtain ⟨a,o,rfl,hab,z0,z1⟩:=hr.key hlt
      have hst:=t3a (p:=fun x=>decide (x = s)) hlt
      have hany : (l.take (k + 1)).any (fun x=>decide (x = s)) = true → l.any (fun x=>decide (x = s)) = true:=t4v
      rw [Ha.out,Bool.false_or] at hst
      have hse:=fun w=>t4w w s l[k]
      by_cases hx : l[k] = s
      · have Hx:=zH (show ∃ j : Nat,((k : Nat) : Int) = (j : Int) ∧ ∃ h : j < l.length,decide (l[j] = s) = true from ⟨k,rfl,hlt,by simp [hx]⟩)
        have Hst:=zH (hany (by rw [hst];simp [hx]))
        simp only [decide_eq_true hx.symm] at hse
        generalize l[k] = x at *
        clear hst hany hx hr
        go_wp2_with (first
          | (with_reducible refine rg ?_)
          | (with_reducible refine fo ?_))
        go_ret
        exact ⟨_,rfl,by rw [Hst.out];simp,fun _=>Hx.out,Hb2.out.drew⟩
      · have hst2 : (l.take (k + 1)).any (fun x=>decide (x = s)) = false:=by rw [hst];simp [hx]
        have Hst:=zH hst2
        simp only [decide_eq_false fun h=>hx (Eq.symm h)] at hse
        generalize l[k] = x at *
        clear hst hst2 hany hx hr
        go_wp2_with (first
          | (with_reducible refine rg ?_)
          | (with_reducible refine fo ?_))
        exact ⟨⟨k + 1,by go_num,by omega,Hst.out,Hb1.out.drew⟩,by simp [intOf];omega⟩
    · obtain rfl : k = l.length:=by omega
      have Ha':=zH (show l.any (fun x=>decide (x = s)) = false by have:=Ha.out;rwa [List.take_length] at this)
      go_wp2
      go_ret
      exact ⟨-1,rfl,by rw [Ha'.out];rfl,fun h=>absurd h (by decide),Hb2.out⟩
set_option maxHeartbeats 4000000 in
theorem tgj (v : Value) (l : List KK) (s : KK) (w : World) (hl : KY w v l) (hL : l.length ≤ 9223372036854775807) :
    Calls Tryz.prog 92 #[v,.agg #[.int .i64 s.kind,.string s.text]] w (ER (l.any fun x=>decide (x = s)) w):=by
  have Hc:=zH (fun w2 hb=>tfj v l s w2 (hl.below hb) hL)
  obtain ⟨p,c,rfl,hr⟩:=hl
  clear hr
  go_enter Tryz.func92,Tryz.ntmps92
  go_upto_region 1 with fail
  have hnb:=heap_alloc_new w (.cells #[.int .i64 s.kind,.string s.text] 73)
  have Hb:=zH ((Below.refl w.heap.size w).alloc (Nat.le_refl _) (.cells #[.int .i64 s.kind,.string s.text] 73))
  generalize w.alloc (.cells #[.int .i64 s.kind,.string s.text] 73) = w1 at *
  obtain ⟨x0,x1⟩:=t0k hnb
  have Hc1:=zH (Hc.out w1.drew Hb.out.drew)
  have Hc2:=zH (Hc.out w1 Hb.out)
  clear hnb Hc
  go_wp2_with (first
    | (with_reducible refine rg ?_)
    | (with_reducible refine fo ?_)
    | (go_at_call 117;refine Hc1.out.mono ?_;rintro e w' ⟨i,rfl,hi,-,hb⟩;have Hb':=zH (Hb.out.drew.step hb);have Hi:=zH hi;clear hi hb)
    | (go_at_call 117;refine Hc2.out.mono ?_;rintro e w' ⟨i,rfl,hi,-,hb⟩;have Hb':=zH (Hb.out.step hb);have Hi:=zH hi;clear hi hb))
  go_ret
  rw [← Hi.out]
  exact ⟨rfl,Hb'.out⟩
theorem t7m {w : World} {b : Nat} {e : TypeId} {fr : Nat × Nat} {s0 s1 s2 s3 : Value} (h : w.heap[b]? = some (.cells #[s0,s1,s2,s3] e fr)) :
    w.cell? ⟨b,0,none⟩ = some s0 ∧ w.cell? ⟨b,1,none⟩ = some s1 ∧ w.cell? ⟨b,2,none⟩ = some s2 ∧ w.cell? ⟨b,3,none⟩ = some s3:=by simp [World.cell?,h]
theorem t0y {w : World} {b : Nat} {e : TypeId} {fr : Nat × Nat} {s0 s1 s2 s3 s4 s5 s6 s7 : Value} (h : w.heap[b]? = some (.cells #[s0,s1,s2,s3,s4,s5,s6,s7] e fr)) :
    (w.cell? ⟨b,0,none⟩ = some s0 ∧ w.cell? ⟨b,1,none⟩ = some s1 ∧ w.cell? ⟨b,2,none⟩ = some s2 ∧ w.cell? ⟨b,3,none⟩ = some s3) ∧ (w.cell? ⟨b,4,none⟩ = some s4 ∧ w.cell? ⟨b,5,none⟩ = some s5 ∧ w.cell? ⟨b,6,none⟩ = some s6 ∧ w.cell? ⟨b,7,none⟩ = some s7):=by simp [World.cell?,h]
theorem t1f (w : World) (A B : Obj) : ∃ w2,(w.alloc A).alloc B = w2 ∧ w2.heap[w.heap.size]? = some A ∧ w2.heap[w.heap.size + 1]? = some B ∧ Below w.heap.size w w2:=by
  refine ⟨_,rfl,heap_alloc2_old w A B,heap_alloc2_new w A B,((Below.refl _ _).alloc (Nat.le_refl _) _).alloc ?_ _⟩
  show _ ≤ (w.heap.push A).size
  simp
theorem t7n (w : World) (A B C : Obj) : ∃ w3,((w.alloc A).alloc B).alloc C = w3 ∧ w3.heap[w.heap.size]? = some A ∧ w3.heap[w.heap.size + 1]? = some B ∧ w3.heap[w.heap.size + 1 + 1]? = some C ∧ Below w.heap.size w w3:=by
  obtain ⟨w2,e,h1,h2,h3⟩:=t1f w A B
  have hs : w2.heap.size = w.heap.size + 1 + 1:=by rw [← e];show ((w.heap.push A).push B).size = _;simp
  refine ⟨_,rfl,?_,?_,?_,?_⟩
  · rw [e,Below.heap_alloc _ _ _ (by omega)];exact h1
  · rw [e,Below.heap_alloc _ _ _ (by omega)];exact h2
  · rw [e,← hs];exact heap_alloc_new _ _
  · rw [e];exact h3.alloc (by omega) _
theorem tc1 {n : TN} {k : KK} {i : Nat} (hi : i < n.fields.length) (hno : ∀ j (h : j < n.fields.length),j < i → n.fields[j].key ≠ k) (hy : n.fields[i].key = k) : atN n k = n.fields[i].node:=by
  unfold atN
  have : n.fields.find? (fun f=>decide (f.key = k)) = some n.fields[i]:=by
    rw [List.find?_eq_some_iff_getElem]
    refine ⟨by simp [hy],i,hi,rfl,fun j hj=>by simp [hno j (by omega) hj]⟩
  rw [this]
theorem t9f {n : TN} {k : KK} (hno : ∀ j (h : j < n.fields.length),n.fields[j].key ≠ k) : atN n k = if k.kind = 0 then n.rest0 else n.rest1:=by
  unfold atN
  have : n.fields.find? (fun f=>decide (f.key = k)) = none:=by
    rw [List.find?_eq_none]
    intro x hx
    obtain ⟨j,hj,rfl⟩:=List.mem_iff_getElem.1 hx
    simp [hno j hj]
  rw [this]
set_option maxHeartbeats 16000000 in
theorem tjn (n : TN) (k : KK) (w : World) (cs : List Value) (hn : NC w n cs) (hk : k.kind = 0 ∨ k.kind = 1) (hL : n.fields.length ≤ 9223372036854775807) :
    Calls Tryz.prog 93 #[.agg cs.toArray,.agg #[.int .i64 k.kind,.string k.text]] w fun e w'=>e = .returned (.int .i64 (atN n k)) ∧ Below w.heap.size w w':=by
  obtain ⟨p1,c1,p2,c2,rfl,-,hf⟩:=hn
  have Hf:=zH hf;clear hf
  go_enter Tryz.func93,Tryz.ntmps93
  go_upto_region 1 with fail
  obtain ⟨w2,e,hA,hB,hb⟩:=t1f w (.cells #[.int .i64 n.kind,.int .i64 n.lo,.int .i64 n.hi,.string n.text,.slice p1 n.kids.length c1,.slice p2 n.fields.length c2,.int .i64 n.rest0,.int .i64 n.rest1] 48) (.cells #[.int .i64 k.kind,.string k.text] 73)
  rw [e]
  have hlA:=t0a hA
  have hlB:=t0a hB
  have HA:=zH hA;have HB:=zH hB;have Hb:=zH hb
  have Hf2:=zH (Hf.out.below hb fun _ _ _ h=>h)
  obtain ⟨-,x4,x5,x6,x7⟩:=t0y hA
  clear e hA hB hb x4 x6 x7
  go_wp2
  go_loopw [10] (fun i wr=>∃ m : Nat,i = .int .i64 m ∧ m ≤ n.fields.length ∧ (∀ j (h : j < n.fields.length),j < m → n.fields[j].key ≠ k) ∧ Below w2.heap.size w2 wr) (fun i _=>n.fields.length - (intOf i).toNat)
  case atStart=>exact ⟨0,rfl,by omega,fun j _ h=>by omega,Below.refl _ _⟩
  case round =>
    obtain ⟨m,rfl,hm,hno,hb⟩:=hrel
    have Hno:=zH hno;have Hb1:=zH hb
    obtain ⟨y0,y1⟩:=t0k ((hb.block _ hlB).trans HB.out)
    obtain ⟨-,-,-,r0,r1⟩:=t0y ((hb.block _ hlA).trans HA.out)
    clear hno hb
    by_cases hlt : m < n.fields.length
    · obtain ⟨a,o,cs,rfl,hab,-,hrng,rfl⟩:=(Hf2.out.below Hb1.out fun _ _ _ h=>h).at hlt
      have z0:=hrng 0 _ rfl
      have z1:=hrng 1 _ rfl
      have z2:=hrng 2 _ rfl
      have z3:=hrng 3 _ rfl
      rw [Nat.add_zero] at z0
      have hse:=fun w=>t4w w n.fields[m].key k
      have Hfound:=zH (fun h=>tc1 hlt Hno.out h)
      have Hmiss:=zH (show n.fields[m].key ≠ k → ∀ j (h : j < n.fields.length),j < m + 1 → n.fields[j].key ≠ k from fun h j hj hjm=>by
        rcases Nat.lt_succ_iff_lt_or_eq.1 hjm with g | rfl
        · exact Hno.out j hj g
        · exact h)
      clear hrng
      generalize n.fields[m] = f at *
      have Hbz:=zH (Hb.out.step Hb1.out)
      have Hbn:=zH (show Below w2.heap.size w2 (wr.alloc (.cells #[.int .i64 f.key.kind,.string f.key.text,.int .i64 f.node,.bool f.opt] 75)) from Hb1.out.step ((Below.refl _ _).alloc (Nat.le_refl _) _))
      have hnew:=heap_alloc_new wr (.cells #[.int .i64 f.key.kind,.string f.key.text,.int .i64 f.node,.bool f.opt] 75)
      obtain ⟨q0,q1,q2,q3⟩:=t7m hnew
      have yk0 : (wr.alloc (.cells #[.int .i64 f.key.kind,.string f.key.text,.int .i64 f.node,.bool f.opt] 75)).cell? ⟨w.heap.size + 1,0,none⟩ = some (.int .i64 k.kind):=(t0k ((Hbn.out.block _ hlB).trans HB.out)).1
      have yk1 : (wr.alloc (.cells #[.int .i64 f.key.kind,.string f.key.text,.int .i64 f.node,.bool f.opt] 75)).cell? ⟨w.heap.size + 1,1,none⟩ = some (.string k.text):=(t0k ((Hbn.out.block _ hlB).trans HB.out)).2
      clear y0 y1 r0 r1
      by_cases hx : f.key = k
      · have Hans:=zH (Hfound.out hx)
        simp only [decide_eq_true hx] at hse
        clear hx hnew
        go_upto_region 4 with fail
        generalize wr.alloc (.cells #[.int .i64 f.key.kind,.string f.key.text,.int .i64 f.node,.bool f.opt] 75) = w5 at *
        go_wp2
        go_ret
        rw [Hans.out]
        exact ⟨rfl,Hb.out.step Hbn.out⟩
      · have Hmiss2:=zH (Hmiss.out hx)
        simp only [decide_eq_false hx] at hse
        clear hx hnew
        go_upto_region 4 with fail
        generalize wr.alloc (.cells #[.int .i64 f.key.kind,.string f.key.text,.int .i64 f.node,.bool f.opt] 75) = w5 at *
        go_wp2
        exact ⟨⟨m + 1,by go_num,by omega,Hmiss2.out,Hbn.out⟩,by simp [intOf];omega⟩
    · obtain rfl : m = n.fields.length:=by omega
      have Hans:=zH (t9f (n:=n) (k:=k) fun j hj=>Hno.out j hj hj)
      have Hbz:=zH (Hb.out.step Hb1.out)
      rcases hk with hk | hk
      · rw [hk] at y0
        have Hk:=zH hk
        clear hk
        go_wp2
        go_ret
        rw [Hans.out,if_pos Hk.out]
        exact ⟨rfl,Hbz.out⟩
      · rw [hk] at y0
        have Hk:=zH hk
        clear hk
        go_wp2
        go_ret
        rw [Hans.out,if_neg (by rw [Hk.out];decide)]
        exact ⟨rfl,Hbz.out⟩
theorem tfk (k : Int) (w : World) : Calls Tryz.prog 55 #[.int .i64 k] w fun e w'=>e = .returned (.int .i64 (t5s k)) ∧ w = w':=by
  unfold t5s
  by_cases h5 : k = 5
  · subst h5
    go_enter Tryz.func55,Tryz.ntmps55
    go_wp2
    go_ret
    exact ⟨rfl,rfl⟩
  rw [if_neg h5]
  have d5 : (k == 5) = false:=beq_eq_false_iff_ne.2 h5
  by_cases h7 : k = 7
  · subst h7
    go_enter Tryz.func55,Tryz.ntmps55
    go_wp2
    go_ret
    exact ⟨rfl,rfl⟩
  rw [if_neg h7]
  have d7 : (k == 7) = false:=beq_eq_false_iff_ne.2 h7
  by_cases h8 : k = 8
  · subst h8
    go_enter Tryz.func55,Tryz.ntmps55
    go_wp2
    go_ret
    exact ⟨rfl,rfl⟩
  rw [if_neg h8]
  have d8 : (k == 8) = false:=beq_eq_false_iff_ne.2 h8
  by_cases h9 : k = 9
  · subst h9
    go_enter Tryz.func55,Tryz.ntmps55
    go_wp2
    go_ret
    exact ⟨rfl,rfl⟩
  rw [if_neg h9]
  have d9 : (k == 9) = false:=beq_eq_false_iff_ne.2 h9
  by_cases h11 : k = 11
  · subst h11
    go_enter Tryz.func55,Tryz.ntmps55
    go_wp2
    go_ret
    exact ⟨rfl,rfl⟩
  rw [if_neg h11]
  have d11 : (k == 11) = false:=beq_eq_false_iff_ne.2 h11
  clear h5 h7 h8 h9 h11
  go_enter Tryz.func55,Tryz.ntmps55
  go_wp2
  go_ret
  exact ⟨rfl,rfl⟩
end Go.Proofs.YtjgldaaofdpcgaaGreat
