/- Walks and plain facts for the laws of membership, for all values and types that the heap holds (texts C5 D1 D2 F1). -/
import Derived.Test.YtjgldaaofdpcgaaGreatW03
import Derived.Test.YtjgldaaofdpcgaaGreatW36
import Derived.Test.YtjgldaaofdpcgaaGreatW43
set_option linter.unusedVariables false
set_option linter.unusedSimpArgs false
namespace Go.Proofs.YtjgldaaofdpcgaaGreat
open Go.RowKit Go.Ident
set_option maxRecDepth 100000
theorem GV.imp {P Q : VV → Prop} (h : ∀ V,P V → Q V) {S : SD} {w w' : World} {e : Ending} (k : GV P S w e w') : GV Q S w e w':=by
  obtain ⟨v,V,h1,h2,h3,h4⟩:=k;exact ⟨v,V,h1,h2,h _ h3,h4⟩
theorem nb_of {T : Ty} {tv : Value} {N Lb : Nat} {S : SD} {k h : Int} {P : VV → Prop} (hP : ∀ V,P V → V.nodes ≤ N ∧ V.labels.length ≤ Lb)
    (hc : ∀ w,SRC S w → TB S T tv w → Calls Tryz.prog 40 #[.pointer (some ⟨S.b,0,none⟩),tv,.int .i64 k,.int .i64 h] w (GV P S w)) : NB T tv N Lb S k h :=
  fun w hS hT=>(hc w hS hT).mono fun _ _ g=>g.imp hP
def NN : Nat → Nat
  | 0=>100
  | h + 1=>1 + 6 * NN h
theorem NN_ge : ∀ h,100 ≤ NN h
  | 0=>Nat.le_refl _
  | h + 1=>by have:=NN_ge h;rw [NN];omega
theorem tg0 {n : TN} (h : kindN n = true) : (n.kind = 12 → n.kids.length = 2) ∧ (n.kind = 14 → 1 ≤ n.kids.length) ∧ (n.kind = 16 → 1 ≤ n.kids.length) ∧ (n.kind = 17 → 1 ≤ n.kids.length):=by
  refine ⟨fun e=>?_,fun e=>?_,fun e=>?_,fun e=>?_⟩ <;> · unfold kindN at h;simp [e] at h;omega
theorem thh (T : Ty) (n : Nat) (hD : TD n T) (hn : n ≤ 1000) (tv : Value) (S : SD) (H : Nat) (h : Int) (h1 : 1 ≤ h) (hh : h ≤ 1000) (hv : ∀ k,NV T tv (NN H) S k (h - 1)) :
    ∀ (m : Nat) (k : Int),m ≤ 1000 → (n : Int) - k ≤ m → NB T tv (NN (H + 1)) (1000 + 3 * m) S k h:=by
  have hN:=NN_ge H
  have hs : NN (H + 1) = 1 + 6 * NN H:=rfl
  intro m
  induction m with
  | zero =>
    intro k _ hk
    have hl:=hD.len
    exact nb_of (fun V hV=>⟨by have:=hV.1;omega,by rw [hV.2];simp⟩) fun w hS hT=>t7d T tv S k h (.inr (.inr (by omega))) w hS hT
  | succ m ih =>
    intro k hm hk
    have hl:=hD.len
    by_cases hc : k < 0 ∨ (T.nodes.length : Int) ≤ k
    · exact nb_of (fun V hV=>⟨by have:=hV.1;omega,by rw [hV.2];simp⟩) fun w hS hT=>t7d T tv S k h (.inr hc) w hS hT
    obtain ⟨kn,rfl⟩ : ∃ kn : Nat,k = (kn : Int):=⟨k.toNat,by omega⟩
    have hkn : kn < T.nodes.length:=by omega
    have hd:=hD.at' kn hkn
    obtain ⟨n0,hn0⟩ : ∃ n0,T.nodes[kn] = n0:=⟨_,rfl⟩
    rw [hn0] at hd
    obtain ⟨k12,k14,k16,k17⟩:=tg0 hd.kind
    have hkid : n0.bool = true → ∀ k' ∈ n0.kids,NB T tv (NN (H + 1)) (1000 + 3 * m) S k' h:=fun hb k' hk'=>by
      have:=hd.later hb k' hk'
      exact ih k' (by omega) (by omega)
    have hin : ∀ k' ∈ n0.kids,0 ≤ k' ∧ k' < (T.nodes.length : Int):=fun k' hk'=>by
      have:=hd.edges k' (by unfold t1u;simp [hk']);omega
    have hk3:=hd.kids
    by_cases ho : OwnK n0.kind = true
    rotate_left
    · exact nb_of (fun V hV=>⟨by have:=hV.1;omega,by have:=hV.2;omega⟩) fun w hS hT=>tje T tv S kn h n0 h1 hh hkn hn0 ho w hS hT
    have hcase : n0.kind = 3 ∨ n0.kind = 4 ∨ n0.kind = 5 ∨ n0.kind = 6 ∨ n0.kind = 7 ∨ n0.kind = 8 ∨ n0.kind = 9 ∨ n0.kind = 10 ∨ n0.kind = 12 ∨ n0.kind = 13 ∨ n0.kind = 14 ∨ n0.kind = 16 ∨ n0.kind = 17 ∨ n0.kind = 19:=by simpa [OwnK,or_assoc] using ho
    have hp : ∀ V : VV,V.nodes ≤ 1 ∧ V.labels = [] → V.nodes ≤ NN (H + 1) ∧ V.labels.length ≤ 1000 + 3 * (m + 1):=fun V hV=>⟨by have:=hV.1;omega,by rw [hV.2];simp⟩
    rcases hcase with e | e | e | e | e | e | e | e | e | e | e | e | e | e
    · exact nb_of hp fun w hS hT=>tjh T tv S kn h n0 h1 hh hkn hn0 e w hS hT
    · exact nb_of hp fun w hS hT=>t6o T tv S kn h n0 h1 hh hkn hn0 (by simp [e]) w hS hT
    · exact nb_of hp fun w hS hT=>t6o T tv S kn h n0 h1 hh hkn hn0 (by simp [e]) w hS hT
    · exact nb_of hp fun w hS hT=>t6o T tv S kn h n0 h1 hh hkn hn0 (by simp [e]) w hS hT
    · exact nb_of hp fun w hS hT=>t6o T tv S kn h n0 h1 hh hkn hn0 (by simp [e]) w hS hT
    · exact nb_of hp fun w hS hT=>t6o T tv S kn h n0 h1 hh hkn hn0 (by simp [e]) w hS hT
    · exact nb_of hp fun w hS hT=>t6o T tv S kn h n0 h1 hh hkn hn0 (by simp [e]) w hS hT
    · exact nb_of (fun V hV=>⟨by have:=hV.1;omega,by rw [hV.2];simp⟩) fun w hS hT=>tic T tv S kn h n0 h1 hh hkn hn0 e (NN H) (by omega) hk3 hv w hS hT
    · exact nb_of (fun V hV=>⟨by have:=hV.1;omega,by rw [hV.2];simp⟩) fun w hS hT=>tid T tv S kn h n0 h1 hh hkn hn0 e (k12 e) (NN H) (by omega) hk3 hv w hS hT
    · exact nb_of (fun V hV=>⟨by have:=hV.1;omega,by rw [hV.2];simp⟩) fun w hS hT=>ti9 T tv S kn h n0 h1 hh hkn hn0 e (NN H) (by omega) hd.fields hv w hS hT
    · exact nb_of (fun V hV=>⟨by have:=hV.1;omega,by rw [hV.2];simp⟩) fun w hS hT=>tia T tv S kn h n0 h1 hh hkn hn0 e (NN H) (by omega) (n0.kids.length - 1) (by have:=k14 e;omega) (by omega) hv w hS hT
    · exact nb_of (fun V hV=>⟨hV.1,by have:=hV.2;omega⟩) fun w hS hT=>tib T tv S kn h n0 h1 hh hkn hn0 e (NN (H + 1)) (1000 + 3 * m) (k16 e) hk3 (hkid (by simp [TN.bool,e])) w hS hT
    · exact nb_of (fun V hV=>⟨hV.1,by have:=hV.2;omega⟩) fun w hS hT=>tih T tv S kn h n0 h1 hh hkn hn0 e (NN (H + 1)) (1000 + 3 * m) (k17 e) hk3 (by omega) hin (hkid (by simp [TN.bool,e])) w hS hT
    · exact nb_of (fun V hV=>⟨by have:=hV.1;omega,by have:=hV.2;omega⟩) fun w hS hT=>tig T tv S kn h n0 h1 hh hkn hn0 e w hS hT
theorem tii (T : Ty) (n : Nat) (hD : TD n T) (hn : n ≤ 1000) (tv : Value) (S : SD) : ∀ (H : Nat) (h : Int),h.toNat ≤ H → h ≤ 1000 → ∀ k,NV T tv (NN H) S k h:=by
  have hl:=hD.len
  intro H
  induction H with
  | zero =>
    intro h h0 hh k
    exact t9l T tv (NN 0) 0 S k h (by decide) (nb_of (fun V hV=>⟨by have:=hV.1;have : NN 0 = 100:=rfl;omega,by rw [hV.2];simp⟩) fun w hS hT=>t7d T tv S k h (.inl (by omega)) w hS hT)
  | succ H ih =>
    intro h h0 hh k
    have hN:=NN_ge (H + 1)
    by_cases hc : h ≤ 0 ∨ k < 0 ∨ (T.nodes.length : Int) ≤ k
    · exact t9l T tv (NN (H + 1)) 0 S k h (by omega) (nb_of (fun V hV=>⟨by have:=hV.1;omega,by rw [hV.2];simp⟩) fun w hS hT=>t7d T tv S k h hc w hS hT)
    · exact t9l T tv (NN (H + 1)) (1000 + 3 * n) S k h (by omega) (thh T n hD hn tv S H h (by omega) hh (ih (h - 1) (by omega) (by omega)) n k (by omega) (by omega))
end Go.Proofs.YtjgldaaofdpcgaaGreat
namespace Go.Proofs.YtjgldaaofdpcgaaGreat
open Go.RowKit Go.Ident
set_option maxRecDepth 100000
set_option maxHeartbeats 16000000 in
theorem thi (g : Nat) (p q : Option Addr) (n m c d : Nat) (w : World) (h : w.heap[g]? = some (.cells #[.slice p n c,.slice q m d] 22)) : Calls Tryz.prog 8 #[.slice (some ⟨g,0,none⟩) 2 2] w (ER (decide (n ≤ 80) && decide (m ≤ 80)) w):=by
  obtain ⟨z0,z1⟩:=t0k h
  clear h
  have Hb:=zH (Below.refl w.heap.size w)
  go_enter Tryz.func8,Tryz.ntmps8
  go_wp2
  go_loop [3] (fun i=>∃ k : Nat,i = .int .i64 k ∧ k ≤ 2 ∧ (0 < k → n ≤ 80) ∧ (1 < k → m ≤ 80)) (fun i=>2 - (intOf i).toNat)
  case atStart=>exact ⟨0,rfl,by omega,by omega,by omega⟩
  case round =>
    obtain ⟨k,rfl,hk,h1,h2⟩:=hrel
    have H1:=zH h1;have H2:=zH h2
    clear h1 h2
    rcases (show k = 0 ∨ k = 1 ∨ k = 2 by omega) with rfl | rfl | rfl
    · by_cases hn : n ≤ 80
      · have d8 : decide (80 < n) = false:=by simp;omega
        have d9 : decide ((80 : Int) < (n : Int)) = false:=by simp;omega
        have Hn:=zH hn
        clear hn
        go_wp2
        exact ⟨⟨1,by first | rfl | go_num,by omega,fun _=>Hn.out,fun h=>by omega⟩,by simp [intOf]⟩
      · have d8 : decide (80 < n) = true:=by simp;omega
        have d9 : decide ((80 : Int) < (n : Int)) = true:=by simp;omega
        have Hr:=zH (show (decide (n ≤ 80) && decide (m ≤ 80)) = false by simp [hn])
        clear hn
        go_wp2
        go_ret
        rw [Hr.out]
        exact ⟨rfl,Hb.out⟩
    · by_cases hn : m ≤ 80
      · have d8 : decide (80 < m) = false:=by simp;omega
        have d9 : decide ((80 : Int) < (m : Int)) = false:=by simp;omega
        have Hn:=zH hn
        clear hn
        go_wp2
        exact ⟨⟨2,by first | rfl | go_num,by omega,fun _=>H1.out (by omega),fun h=>Hn.out⟩,by simp [intOf]⟩
      · have d8 : decide (80 < m) = true:=by simp;omega
        have d9 : decide ((80 : Int) < (m : Int)) = true:=by simp;omega
        have Hr:=zH (show (decide (n ≤ 80) && decide (m ≤ 80)) = false by simp [hn])
        clear hn
        go_wp2
        go_ret
        rw [Hr.out]
        exact ⟨rfl,Hb.out⟩
    · have Hr:=zH (show (decide (n ≤ 80) && decide (m ≤ 80)) = true by simp [H1.out (by omega),H2.out (by omega)])
      go_wp2
      go_ret
      rw [Hr.out]
      exact ⟨rfl,Hb.out⟩
theorem ta0 {P : Program} {fn : Func} {p q : Tmp} {ty uy : TypeId} (h : fn.results = #[.cell p ty,.cell q uy]) (tmps : Array Value) (w : World) (g : Nat) (t : TypeId) (cs : Array Value) (fr : Nat × Nat) (d : TypeDesc)
    (hp : tmps.getD p undef = .pointer (some ⟨g,0,none⟩)) (hg : w.heap[g]? = some (.cells cs t fr))
    (hu : P.underlying ty = some d) (hd : (match d with | .struct _ | .array _ _=>true | _=>false) = true) (hi : (P.info? ty).map (·.size) = some cs.size)
    (g2 : Nat) (t2 : TypeId) (cs2 : Array Value) (fr2 : Nat × Nat) (d2 : TypeDesc)
    (hp2 : tmps.getD q undef = .pointer (some ⟨g2,0,none⟩)) (hg2 : w.heap[g2]? = some (.cells cs2 t2 fr2))
    (hu2 : P.underlying uy = some d2) (hd2 : (match d2 with | .struct _ | .array _ _=>true | _=>false) = true) (hi2 : (P.info? uy).map (·.size) = some cs2.size) :
    (results fn tmps).run P w = .ok (.tuple #[.agg cs,.agg cs2]) w:=by
  have hp' : tmps[p]?.getD undef = .pointer (some ⟨g,0,none⟩):=by simpa using hp
  have hq' : tmps[q]?.getD undef = .pointer (some ⟨g2,0,none⟩):=by simpa using hp2
  simp [results,h,hp',hq',asAddr,run_loadVar_row w g t ty cs fr d hg hu hd hi,run_loadVar_row w g2 t2 uy cs2 fr2 d2 hg2 hu2 hd2 hi2]
end Go.Proofs.YtjgldaaofdpcgaaGreat
namespace Go.Proofs.YtjgldaaofdpcgaaGreat
open Go.RowKit Go.Ident
set_option maxRecDepth 100000
def TOB (B0 B : Nat) (w' : World) (v : Value) (T : Ty) : Prop:=∃ p c xs,v = .agg #[.slice p T.nodes.length c,.int .i64 T.root] ∧ w'.ownsRow B0 48 8 (.slice p T.nodes.length c) T.nodes.length xs ∧ (∀ g,(Value.slice p T.nodes.length c).ownBlock = some g → g < B) ∧ Ch 8 (NC (we (aE B0 (.slice p T.nodes.length c) (.slice none 0 0)) w')) T.nodes xs
theorem TO.tob {B0 : Nat} {w : World} {v : Value} {T : Ty} (h : TO B0 w v T) : TOB B0 w.heap.size w v T:=by
  obtain ⟨p,c,xs,h1,h2,h3⟩:=h;exact ⟨p,c,xs,h1,h2,fun g hg=>(h2.lt g hg).2,h3⟩
theorem TOB.below {B0 B : Nat} {w w' : World} {v : Value} {T : Ty} (h : TOB B0 B w v T) (hb : Below w.heap.size w w') : TOB B0 B w' v T:=by
  obtain ⟨p,c,xs,h1,h2,h3,h4⟩:=h
  exact ⟨p,c,xs,h1,t0d h2 hb (Nat.le_refl _),h3,h4.mono fun x cs _ h=>h.below (by rw [t0j];exact t1l hb)⟩
theorem TOB.turn {B0 B : Nat} {S : SD} {w0 w1 w2 : World} {v : Value} {T : Ty} (h : TOB B0 B w0 v T) (hb : Below w0.heap.size w0 w1) (hS : w0.heap.size ≤ S.b) (hB : B ≤ w0.heap.size) (hs : SR S w1 w2) : TOB B0 B w2 v T:=by
  obtain ⟨p,c,xs,h1,h2,h3,h4⟩:=h
  have k2:=t0d h2 hb (Nat.le_refl _)
  refine ⟨p,c,xs,h1,t3l k2 fun g hg=>hs.block (k2.lt g hg).2 (by have:=h3 g hg;omega),h3,h4.mono fun x cs _ h=>?_⟩
  have e1:=h.below (t4q (x:=S.b) hb hS)
  have e2:=e1.below (by rw [t0j];exact hs.we (E:=ex _ S.b) (by simp [ex]))
  exact e2.sub (t9s _ _ _)
theorem TS.turn {E : Nat → Bool} {S : SD} {w0 w1 w2 : World} {v : Value} {T : Ty} (h : TS (we E w0) v T) (hb : Below w0.heap.size w0 w1) (hS : w0.heap.size ≤ S.b) (hs : SR S w1 w2) : TS (we E w2) v T :=
  ((h.below (t4q (x:=S.b) hb hS)).below (by rw [t0j];exact hs.we (E:=ex _ S.b) (by simp [ex]))).sub (t9s _ _ _)
theorem TB.of_new {E : Nat → Bool} {S : SD} {w0 w1 : World} {v : Value} {T : Ty} (h : TS (we E w0) v T) (hb : Below w0.heap.size w0 w1) (hS : w0.heap.size ≤ S.b) : TB S T v w1 :=
  (h.below (t4q (x:=S.b) hb hS)).sub (t2r _ fun k hk=>by simp only [beq_iff_eq] at hk;simp [ex,hk])
theorem TOB.row {B0 B x : Nat} {w : World} {v : Value} {T : Ty} (h : TOB B0 B w v T) (hx : x < B0) (cs : Array Value) : TOB B0 B (w.setRow x cs) v T:=by
  obtain ⟨p,c,xs,h1,h2,h3,h4⟩:=h
  exact ⟨p,c,xs,h1,t3l h2 fun g hg=>setRow_other _ _ _ _ (by have:=(h2.lt g hg).1;omega),h3,h4.mono fun x cs _ h=>h.below (by rw [t0j];exact t4e (aE_b hx) _)⟩
theorem TOB.low {B0 B0' B : Nat} {w : World} {v : Value} {T : Ty} (h : TOB B0 B w v T) (hB : B0' ≤ B0) : TOB B0' B w v T:=by
  obtain ⟨p,c,xs,h1,h2,h3,h4⟩:=h
  refine ⟨p,c,xs,h1,tf6 h2 hB,h3,h4.mono fun x cs _ h=>h.sub (t2r _ fun k hk=>?_)⟩
  simp only [aE,Bool.or_eq_true,decide_eq_true_eq] at hk ⊢
  rcases hk with hk | hk
  · exact .inl (by omega)
  · exact .inr hk
theorem TOB.wide {B0 B B' : Nat} {w : World} {v : Value} {T : Ty} (h : TOB B0 B w v T) (hB : B ≤ B') : TOB B0 B' w v T:=by
  obtain ⟨p,c,xs,h1,h2,h3,h4⟩:=h
  exact ⟨p,c,xs,h1,h2,fun g hg=>Nat.lt_of_lt_of_le (h3 g hg) hB,h4⟩
theorem tci {B b : Nat} {w w' : World} (h : Below B w w') (hb : B ≤ b) (cs : Array Value) : Below B w (w'.setRow b cs) :=
  ⟨h.os,h.tape,h.output,by rw [size_setRow];exact h.size,fun i hi=>by rw [setRow_other _ _ _ _ (by omega)];exact h.block i hi⟩
theorem thj {E : Nat → Bool} {x : Nat} {w : World} {v : Value} {T : Ty} (h : TS (we E w) v T) (hx : E x = true) (cs : Array Value) : TS (we E (w.setRow x cs)) v T:=h.below (by rw [t0j];exact t4e hx cs)
theorem thk {E : Nat → Bool} {x d : Nat} {w : World} {V : VV} {l : List Value} (h : VS (we E w) d V l) (hx : E x = true) (cs : Array Value) : VS (we E (w.setRow x cs)) d V l:=h.below (by rw [t0j];exact t4e hx cs)
theorem tbw {b : Nat} {p : Option Addr} {c : Nat} {L : List Int} {w w1 : World} (h : IS w (.slice p L.length c) L) (hb : Below w.heap.size w w1) (hwb : w.heap.size ≤ b) (hc : w1.heap[b]? = some (.cells #[.slice p L.length c,.int .i64 0] 39)) (hl : L.length ≤ 1000) : SRC ⟨b,p,c,L⟩ w1 :=
  ⟨⟨0,by simp,hc⟩,h.below (hb.trans (wo_in hwb |>.mono (Nat.le_refl _))),hl⟩
def DRW (w : World) (e : Ending) (w' : World) : Prop:=∃ tv T v V n B,e = .returned (.tuple #[tv,v]) ∧ TS (we (lo w.heap.size) w') tv T ∧ TOB w.heap.size B w' tv T ∧ TD n T ∧ 1 ≤ n ∧ n ≤ 7 ∧ VW (we (lo B) w') v V ∧ V.valid = true ∧ V.nodes ≤ NN 4 ∧ w.heap.size ≤ B ∧ Below w.heap.size w w'
set_option maxHeartbeats 64000000 in
theorem thl (p q : Option Addr) (c d : Nat) (L M : List Int) (w : World) (hL : IS w (.slice p L.length c) L) (hM : IS w (.slice q M.length d) M) (hl : L.length ≤ 1000) (hm : M.length ≤ 1000) : Calls Tryz.prog 11 #[.slice p L.length c,.slice q M.length d] w (DRW w):=by
  obtain ⟨w2,e9,hA,hC,hb⟩:=t1f w (.cells #[.slice none 0 0,.int .i64 0] 31) (.cells #[.int .i64 0,.int .i64 0,.string ⟨#[]⟩,.slice none 0 0,.slice none 0 0,.slice none 0 0,.slice none 0 0] 28)
  have hs2 : w2.heap.size = w.heap.size + 2:=by rw [← e9];simp
  have HL:=zH hL;have HM:=zH hM;have HA:=zH hA;have HC:=zH hC;have Hb:=zH hb;have Hs2:=zH hs2
  clear hL hM hA hC hb hs2
  have hB3:=heap_alloc_new w2 (.cells #[.slice p L.length c,.int .i64 0] 39)
  have hb3 : Below w2.heap.size w2 (w2.alloc (.cells #[.slice p L.length c,.int .i64 0] 39)):=(Below.refl _ _).alloc (Nat.le_refl _) _
  go_enter Tryz.func11,Tryz.ntmps11
  go_upto_region 1 with fail
  try rw [e9]
  clear e9
  go_upto_region 2 with fail
  generalize w2.alloc (.cells #[.slice p L.length c,.int .i64 0] 39) = w3 at *
  have HS3:=zH (SR.refl (tbw HL.out (Hb.out.trans (hb3.mono Hb.out.size)) Hb.out.size hB3 hl))
  have HA3:=zH ((hb3.block _ (t0a HA.out)).trans HA.out)
  have HC3:=zH ((hb3.block _ (t0a HC.out)).trans HC.out)
  have Hb3:=zH (Hb.out.trans (hb3.mono Hb.out.size))
  have hlt3:=t0a hB3
  clear hB3 hb3
  have hbs : w.heap.size + 2 ≤ w2.heap.size:=Nat.le_of_eq Hs2.out.symm
  go_upto_region 3 with (first
    | (go_at_call 24;refine (t0z ⟨w2.heap.size,p,c,L⟩ 7 w3 HS3.out.src (by omega)).mono ?_;rintro e w4 ⟨x,rfl,hs,h0,h1,-⟩;have h1:=h1 (by decide);obtain ⟨n',hn'⟩ : ∃ n' : Nat,(1 : Int) + x = (n' : Int):=⟨(1 + x).toNat,by omega⟩;have H4:=zH hs;have hn1 : 1 ≤ n':=(by omega);have hn7 : n' ≤ 7:=(by omega);clear hs h0 h1)
    | (go_at_call 23;refine (thz ⟨w2.heap.size,p,c,L⟩ n' w4 H4.out.src hn1 (by omega)).mono ?_;rintro e w5 ⟨tv,T,rfl,ht,hd,hs,ho⟩;obtain ⟨pT,cT,xs,rfl,ho,hch⟩:=ho;have HT:=zH ht;have HD:=zH hd;have H5:=zH (H4.out.trans hs);have HO:=zH (TO.tob (v:=.agg #[.slice pT T.nodes.length cT,.int .i64 T.root]) ⟨pT,cT,xs,rfl,ho,hch⟩);have Hw4:=zH (show w3.heap.size ≤ w4.heap.size from H4.out.size);clear ht hd hs ho hch hn'))
  have hB6:=heap_alloc_new w5 (.cells #[.slice pT T.nodes.length cT,.int .i64 T.root] 31)
  have hb6 : Below w5.heap.size w5 (w5.alloc (.cells #[.slice pT T.nodes.length cT,.int .i64 T.root] 31)):=(Below.refl _ _).alloc (Nat.le_refl _) _
  generalize w5.alloc (.cells #[.slice pT T.nodes.length cT,.int .i64 T.root] 31) = w6 at *
  have HB6:=zH hB6;have Hb6:=zH hb6
  have hlt6:=t0a hB6
  have hsz5 : w3.heap.size ≤ w5.heap.size:=H5.out.size
  have Hb5:=zH (show Below w.heap.size w w5 from Hb3.out.trans (H5.out.old (B:=w.heap.size) (by show w.heap.size ≤ w2.heap.size;omega)))
  clear hB6 hb6
  go_upto_region 4 with fail
  have hB7:=heap_alloc_new w6 (.cells #[.slice q M.length d,.int .i64 0] 39)
  have hb7 : Below w6.heap.size w6 (w6.alloc (.cells #[.slice q M.length d,.int .i64 0] 39)):=(Below.refl _ _).alloc (Nat.le_refl _) _
  generalize w6.alloc (.cells #[.slice q M.length d,.int .i64 0] 39) = w7 at *
  have hsz6 : w5.heap.size ≤ w6.heap.size:=Hb6.out.size
  have HS7:=zH (SR.refl (tbw HM.out (Hb5.out.trans ((Hb6.out.mono (by omega)).trans (hb7.mono (by omega)))) (by omega) hB7 hm))
  have H57:=zH (show Below w5.heap.size w5 w7 from Hb6.out.step hb7)
  have HB7:=zH ((hb7.block _ hlt6).trans HB6.out)
  have hlt7:=t0a hB7
  clear hB7 hb7
  obtain ⟨g0,g1⟩:=t0k HB7.out
  have hDl:=HD.out.len
  have HDl:=zH hDl
  clear hDl
  generalize hbt : w5.heap.size = bt at *
  generalize hbr : w6.heap.size = br at *
  have Hbt:=zH hbt;have Hbr:=zH hbr
  clear hbt hbr
  go_upto_region 5 with (go_at_call 24;refine (t0z ⟨br,q,d,M⟩ (T.nodes.length : Int) w7 HS7.out.src (by have:=HDl.out;omega)).mono ?_;rintro e w8 ⟨k,rfl,hs,-,-,-⟩;have H8:=zH hs;clear hs)
  have HB8:=zH ((H8.out.block (k:=bt) (by omega) (by show bt ≠ br;omega)).trans HB7.out)
  clear g0 g1
  obtain ⟨g0,g1⟩:=t0k HB8.out
  have Y7:=zH (show w8.drew.cell? ⟨bt,0,none⟩ = _ from g0)
  have hlt8:=t0a HB8.out
  have hTB : TB ⟨br,q,d,M⟩ T (.agg #[.slice pT T.nodes.length cT,.int .i64 T.root]) w7:=TB.of_new (S:=⟨br,q,d,M⟩) HT.out (by rw [Hbt.out];exact H57.out) (by rw [Hbt.out];show bt ≤ br;omega)
  have HTB:=zH (hTB.sr H8.out.drew)
  have HN:=zH (tii T n' HD.out (by omega) (.agg #[.slice pT T.nodes.length cT,.int .i64 T.root]) ⟨br,q,d,M⟩ 4 4 (by decide) (by decide) k w8.drew H8.out.drew.src HTB.out)
  have hsz8 : w7.heap.size ≤ w8.heap.size:=H8.out.size
  clear hTB
  go_wp2_with (first
    | ((with_reducible refine Lex.t0w ?_);refine fE (by repeat first | exact LexK.t0t | refine LexK.t0o rfl ?_ | refine LexK.t0p (by decide +kernel) ?_ | refine LexK.t0c rfl (Eq.refl _) Y7.out ?_) ?_)
    | ((with_reducible refine Lex.t0q ?_);refine LexK.t0h (fun x=>x = bt) (by kernel_rfl) (by decide +kernel) ?_)
    | (with_reducible first | refine qH ?_ | refine LexK.t0s ?_ | refine LexK.t0v ?_)
    | ((with_reducible refine Lex.t1b ?_);first | (refine LexK.t0e hex9.out ?_) | (refine LexK.t0e (LexK.Ext.alloc _ _) ?_) | (refine LexK.t0e (LexK.Ext.refl _) ?_))
    | (go_at_call 25;refine HN.out.mono ?_;rintro e w9 ⟨v9,X,rfl,hx,hq,hs⟩;obtain ⟨dv,cs,rfl,hx⟩:=hx;obtain ⟨x1,x2,x3,x4,x5,x6,x7,x8,rfl⟩:=hx.seven;have HX:=zH hx;have Hq:=zH hq;have hex9:=zH (t5t hs (show bt ≠ br by omega) hlt8);have H9:=zH (H8.out.drew.trans hs);have HC9:=zH ((H9.out.block (k:=w.heap.size + 1) (by omega) (by show w.heap.size + 1 ≠ br;omega)).trans ((H57.out.block _ (by omega)).trans ((H5.out.block (k:=w.heap.size + 1) (by omega) (by show w.heap.size + 1 ≠ w2.heap.size;omega)).trans HC3.out)));have HA9:=zH ((H9.out.block (k:=w.heap.size) (by omega) (by show w.heap.size ≠ br;omega)).trans ((H57.out.block _ (by omega)).trans ((H5.out.block (k:=w.heap.size) (by omega) (by show w.heap.size ≠ w2.heap.size;omega)).trans HA3.out)));clear hx hq hs)
    | (with_reducible refine wpList_store_row rfl 31 (.tmp 4) (.tmp 26) rfl _ _ rfl rfl _ _ HA9.out (by kernel_rfl) (by kernel_rfl) (by kernel_rfl) ?_)
    | (with_reducible refine wpList_store_row rfl 28 (.tmp 5) (.tmp 30) rfl _ _ rfl rfl _ _ ((setRow_other _ _ _ _ (by omega)).trans HC9.out) (by kernel_rfl) (by kernel_rfl) (by kernel_rfl) ?_))
  refine bodyPost_ret (ta0 rfl _ _ w.heap.size 31 _ (0,0) _ rfl ((setRow_other _ _ _ _ (by omega)).trans (setRow_heap _ _ _ _ _ _ HA9.out)) rfl rfl (by kernel_rfl) (w.heap.size + 1) 28 _ (0,0) _ rfl (setRow_heap _ _ _ _ _ _ ((setRow_other _ _ _ _ (by omega)).trans HC9.out)) rfl rfl (by kernel_rfl)) rfl ?_
  have hB0 : w.heap.size + 2 ≤ w4.heap.size:=by have:=Hw4.out;omega
  have hT9 : TS (we (lo (w.heap.size + 2)) w9) (.agg #[.slice pT T.nodes.length cT,.int .i64 T.root]) T:=(HT.out.sub (t1m w5 hB0)).turn (S:=⟨br,q,d,M⟩) (by rw [Hbt.out];exact H57.out) (by rw [Hbt.out];show bt ≤ br;omega) H9.out
  have hO9:=(HO.out.low (B0':=w.heap.size + 2) hB0).turn (S:=⟨br,q,d,M⟩) (by rw [Hbt.out];exact H57.out) (by rw [Hbt.out];show bt ≤ br;omega) (Nat.le_of_eq Hbt.out.symm) H9.out
  have hE1 : lo (w.heap.size + 2) w.heap.size = true:=by simp [lo]
  have hE2 : lo (w.heap.size + 2) (w.heap.size + 1) = true:=by simp [lo]
  have hE3 : lo w8.drew.heap.size w.heap.size = true:=by simp only [lo,decide_eq_true_eq];show w.heap.size < w8.heap.size;omega
  have hE4 : lo w8.drew.heap.size (w.heap.size + 1) = true:=by simp only [lo,decide_eq_true_eq];show w.heap.size + 1 < w8.heap.size;omega
  refine ⟨_,T,_,X,n',w8.heap.size,rfl,?_,((hO9.row (by omega) _).row (by omega) _).low (by omega) |>.wide (by first | omega | (rw [Hbt.out];omega)),HD.out,hn1,hn7,⟨dv,_,rfl,?_⟩,Hq.out.1,Hq.out.2,by omega,?_⟩
  · exact TS.sub (t1m _ (show w.heap.size ≤ w.heap.size + 2 by omega)) (thj (thj hT9 hE1 _) hE2 _)
  · exact thk (thk HX.out hE3 _) hE4 _
  · have hb9:=Hb5.out.trans ((H57.out.mono (by omega)).trans (H9.out.old (B:=w.heap.size) (by show w.heap.size ≤ br;omega)))
    exact (tci hb9 (by omega) _ |> fun h=>tci h (by omega) _)
end Go.Proofs.YtjgldaaofdpcgaaGreat
namespace Go.Proofs.YtjgldaaofdpcgaaGreat
open Go.RowKit Go.Ident
theorem wf_mk {T : Ty} (hr : T.has T.root = true) (hn : ∀ (j : Nat) (h : j < T.nodes.length),t1t T.nodes[j] = true ∧ kindN T.nodes[j] = true ∧ ∀ k ∈ t1u T.nodes[j],0 ≤ k ∧ k < (T.nodes.length : Int)) {rk : Nat → Nat} (hrk : RkT T rk) : WfT T:=by
  refine ⟨hr,fun x hx=>?_,rk,hrk⟩
  obtain ⟨j,hj,rfl⟩:=List.mem_iff_getElem.1 hx
  obtain ⟨h1,h2,h3⟩:=hn j hj
  unfold nodeT
  rw [h1,h2,Bool.true_and,Bool.true_and,List.all_eq_true]
  exact fun k hk=>has_iff.2 (h3 k hk)
theorem TD.rk {n : Nat} {T : Ty} (h : TD n T) : RkT T fun i=>n - i:=by
  intro i hi hb k hk
  have hl:=h.len
  rw [T.node_at hi] at hb hk
  have hd:=h.at' i hi
  have h1:=hd.later hb k hk
  have h2:=hd.edges k (by unfold t1u;simp [hk])
  show n - k.toNat < n - i
  omega
theorem TD.wf {n : Nat} {T : Ty} (h : TD n T) (h1 : 1 ≤ n) : WfT T:=by
  have hl:=h.len
  exact wf_mk (by rw [h.root];exact has_iff.2 ⟨by omega,by unfold Ty.len;omega⟩) (fun j hj=>⟨(h.at' j hj).plain,(h.at' j hj).kind,fun k hk=>by have:=(h.at' j hj).edges k hk;omega⟩) h.rk
theorem t9v {T : Ty} (hw : WfT T) (V : VV) {i : Nat} (hi : i < T.nodes.length) : mem T V (i : Int) = memS (mem T) V (mem T V) T.nodes[i]:=by rw [tdd hw.m,T.node_at hi]
theorem te2 {T : Ty} {V : VV} (hv : V.valid = true) (h : WfT T) {k : Int} (hk : T.has k = true) : mof T V k = mem T V k:=by rw [tdz hv h,hk,Bool.true_and]
end Go.Proofs.YtjgldaaofdpcgaaGreat
