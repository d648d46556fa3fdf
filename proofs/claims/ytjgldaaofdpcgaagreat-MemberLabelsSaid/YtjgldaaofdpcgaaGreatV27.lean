/- Walks and plain facts for the laws of membership, for all values and types that the heap holds (texts A2). -/
import Derived.Test.YtjgldaaofdpcgaaGreatV03
import Derived.Test.YtjgldaaofdpcgaaGreatV26
set_option linter.unusedVariables false
set_option linter.unusedSimpArgs false
namespace Go.Proofs.YtjgldaaofdpcgaaGreat
open Go.RowKit Go.Ident
set_option maxRecDepth 100000
def MK : List KK:=[⟨0,⟨#[97]⟩⟩,⟨0,⟨#[98]⟩⟩,⟨1,⟨#[115]⟩⟩]
def t7t : Nat → List (List KK)
  | 0=>[[]]
  | i + 1=>t7t i ++ (t7t i).map fun q=>q ++ (MK.drop i).take 1
theorem tak : (Tryz.prog.info? 75).map (fun i=>(i.zero,i.size,i.bytes)) = some (some (.agg #[.int .i64 0,.string ⟨#[]⟩,.int .i64 0,.bool false]),4,40):=by kernel_rfl
theorem t2v {S : SD} {w w' : World} {B : Nat} (h : SR S w w') (hl : B ≤ w.heap.size) : LexK.Ext (fun x=>x < B ∧ x ≠ S.b) w w':=⟨h.size,fun i hi e=>h.block hi e.2⟩
theorem t4o {S : SD} {w w' : World} {B : Nat} (h : Below B w w') : LexK.Ext (fun x=>x < B ∧ x ≠ S.b) w w':=⟨h.size,fun i _ e=>h.block _ e.1⟩
theorem t4h {E : Nat → Bool} {n bx : Nat} {w : World} {X : TN} {vs : List Value} (h : NC (we E w) X vs) (hx : E bx = true) (hl : ∀ k,k < n → E k = true) (cs : Array Value) : NC (we (lo n) (w.setRow bx cs)) X vs :=
  (h.below (by rw [t0e];exact t3o hx cs)).sub (t2f _ fun k hk=>hl k (by simpa [lo] using hk))
theorem IS.nil' (w : World) : IS w (.slice none 0 0) []:=⟨none,0,rfl,by simp,RC.nil _ _ _⟩
def GN (Q : TN → Prop) (S : SD) (w : World) (e : Ending) (w' : World) : Prop:=∃ cs X,e = .returned (.agg cs.toArray) ∧ NC (we (lo w.heap.size) w') X cs ∧ Q X ∧ SR S w w'
def DM (n : Int) (X : TN) : Prop:=X.kind = 13 ∧ X.lo = 0 ∧ X.hi = 0 ∧ X.text = t0t ∧ X.kids = [] ∧ X.fields.map FF.key ∈ t7t 3 ∧ (∀ f ∈ X.fields,0 ≤ f.node ∧ f.node < n) ∧ (0 ≤ X.rest0 ∧ X.rest0 < n) ∧ 0 ≤ X.rest1 ∧ X.rest1 < n
set_option maxHeartbeats 32000000 in
theorem tej (S : SD) (n : Int) (w : World) (hS : SRC S w) (h1n : 1 ≤ n) (hn : n ≤ 1000) : Calls Tryz.prog 74 #[.pointer (some ⟨S.b,0,none⟩),.int .i64 n] w (GN (DM n) S w):=by
  have hltS:=hS.lt
  have Hb:=zH (show w.heap.size ≠ S.b by omega)
  have Ha:=zH (SR.alloc hS (.cells #[.int .i64 0,.int .i64 0,.int .i64 0,.string ⟨#[]⟩,.slice none 0 0,.slice none 0 0,.int .i64 0,.int .i64 0] 48))
  have Hn:=zH (heap_alloc_new w (.cells #[.int .i64 0,.int .i64 0,.int .i64 0,.string ⟨#[]⟩,.slice none 0 0,.slice none 0 0,.int .i64 0,.int .i64 0] 48))
  clear hS
  go_enter Tryz.func74,Tryz.ntmps74
  go_upto_region 1 with fail
  generalize w.alloc (.cells #[.int .i64 0,.int .i64 0,.int .i64 0,.string ⟨#[]⟩,.slice none 0 0,.slice none 0 0,.int .i64 0,.int .i64 0] 48) = w1 at *
  go_upto_region 2 with (go_at_call 24;first
    | (refine (t1a S n w1 Ha.out.src (by omega)).mono ?_;rintro e w2 ⟨r0,rfl,hs,h0,h1,-⟩;have h1:=h1 (by omega);have H2:=zH (Ha.out.trans hs);have Z2:=zH ((hs.block (t0b Hn.out) Hb.out).trans Hn.out);clear hs)
    | (refine (t1a S n w2 H2.out.src (by omega)).mono ?_;rintro e w3 ⟨r1,rfl,hs,h2,h3,-⟩;have h3:=h3 (by omega);have H3:=zH (H2.out.trans hs);have Z3:=zH ((hs.block (t0b Z2.out) Hb.out).trans Z2.out);clear hs))
  have hB4:=heap_alloc_new w3 (.cells #[.int .i64 13,.int .i64 0,.int .i64 0,.string ⟨#[]⟩,.slice none 0 0,.slice none 0 0,.int .i64 r0,.int .i64 r1] 48)
  have hb4 : Below w3.heap.size w3 (w3.alloc (.cells #[.int .i64 13,.int .i64 0,.int .i64 0,.string ⟨#[]⟩,.slice none 0 0,.slice none 0 0,.int .i64 r0,.int .i64 r1] 48)):=(Below.refl _ _).alloc (Nat.le_refl _) _
  generalize w3.alloc (.cells #[.int .i64 13,.int .i64 0,.int .i64 0,.string ⟨#[]⟩,.slice none 0 0,.slice none 0 0,.int .i64 r0,.int .i64 r1] 48) = w4 at *
  have HB4:=zH hB4;have H4:=zH (H3.out.step hb4);have Z4:=zH ((hb4.block _ (t0b Z3.out)).trans Z3.out)
  have hbw:=(show w.heap.size < w3.heap.size from t0b Z3.out)
  clear hB4 hb4
  generalize w3.heap.size = bx at *
  go_upto_region 3 with fail
  have hB5:=heap_alloc_new w4 (.cells #[.int .i64 0,.string ⟨#[97]⟩,.int .i64 0,.string ⟨#[98]⟩,.int .i64 1,.string ⟨#[115]⟩] 73)
  have hb5 : Below w4.heap.size w4 (w4.alloc (.cells #[.int .i64 0,.string ⟨#[97]⟩,.int .i64 0,.string ⟨#[98]⟩,.int .i64 1,.string ⟨#[115]⟩] 73)):=(Below.refl _ _).alloc (Nat.le_refl _) _
  generalize w4.alloc (.cells #[.int .i64 0,.string ⟨#[97]⟩,.int .i64 0,.string ⟨#[98]⟩,.int .i64 1,.string ⟨#[115]⟩] 73) = w5 at *
  have HK5:=zH hB5;have H5:=zH (H4.out.step hb5);have Z5:=zH ((hb5.block _ (t0b Z4.out)).trans Z4.out);have HB5:=zH ((hb5.block _ (t0b HB4.out)).trans HB4.out)
  have hbk:=(show bx < w4.heap.size from t0b HB4.out)
  clear hB5 hb5
  generalize w4.heap.size = bk at *
  go_wp2
  go_loopw [7] (fun iv wr=>∃ (i : Nat) (fs : List FF) (xs : List Value) (fv : Value),iv = .int .i64 (i : Int) ∧ i ≤ 3 ∧ fs.length ≤ i ∧ wr.heap[bx]? = some (.cells #[.int .i64 13,.int .i64 0,.int .i64 0,.string ⟨#[]⟩,.slice none 0 0,fv,.int .i64 r0,.int .i64 r1] 48) ∧ wr.ownsRow (bk + 1) 75 4 fv fs.length xs ∧ Ch 4 FC fs xs ∧ fs.map FF.key ∈ t7t i ∧ (∀ f ∈ fs,0 ≤ f.node ∧ f.node < n) ∧ wr.heap[bk]? = some (.cells #[.int .i64 0,.string ⟨#[97]⟩,.int .i64 0,.string ⟨#[98]⟩,.int .i64 1,.string ⟨#[115]⟩] 73) ∧ wr.heap[w.heap.size]? = some (.cells #[.int .i64 0,.int .i64 0,.int .i64 0,.string ⟨#[]⟩,.slice none 0 0,.slice none 0 0,.int .i64 0,.int .i64 0] 48) ∧ SR S w wr) (fun iv _=>(3 - intOf iv).toNat)
  case atStart=>exact ⟨0,[],[],.slice none 0 0,rfl,by simp,by simp,HB5.out,World.ownsRow_nil _ _ _ _,Ch.nil,by simp [t7t],fun f hf=>by simp at hf,HK5.out,Z5.out,H5.out⟩
  case round =>
    obtain ⟨i,fs,xs,fv,rfl,hi,hfl,hBr,ho,hc,hks,hN,hKr,hZr,hsr⟩:=hrel
    obtain ⟨pa,ca,rfl⟩:=t0m ho
    have HBr:=zH hBr;have Ho:=zH ho;have Hc:=zH hc;have Hks:=zH hks;have HN:=zH hN;have HKr:=zH hKr;have HZr:=zH hZr;have Hsr:=zH hsr
    have hsz2 : bk + 1 ≤ wr.heap.size:=t0b hKr
    have Hxb:=zH (show bx ≠ S.b by omega)
    have Hkb:=zH (show bk ≠ S.b by omega)
    by_cases h3i : i < 3
    · clear hBr ho hc hks hN hKr hZr hsr
      obtain ⟨wq,hwq⟩ : ∃ wq : World,wq = wr:=⟨_,rfl⟩
      subst hwq
      rcases (show i = 0 ∨ i = 1 ∨ i = 2 by omega) with rfl | rfl | rfl
      · go_upto_region 7 with (go_at_call 24;refine (t1a S 2 wq Hsr.out.src (by omega)).mono ?_;rintro e w6 ⟨y,rfl,hs,h4,h5,-⟩;have h5:=h5 (by decide);have Hs6:=zH hs;have H6:=zH (Hsr.out.trans hs);clear hs;rcases (show y = 0 ∨ y = 1 by omega) with rfl | rfl)
        · refine ⟨⟨1,fs,xs,.slice pa fs.length ca,rfl,by omega,by omega,(Hs6.out.block (by omega) Hxb.out).trans HBr.out,Hs6.out.owns Ho.out (by omega),Hc.out,?_,HN.out,(Hs6.out.block (by omega) Hkb.out).trans HKr.out,(Hs6.out.block (by omega) Hb.out).trans HZr.out,H6.out⟩,by simp [intOf]⟩
          exact List.mem_append_left _ Hks.out
        · have HB6:=zH ((Hs6.out.block (by omega) Hxb.out).trans HBr.out)
          have HK6:=zH ((Hs6.out.block (by omega) Hkb.out).trans HKr.out)
          have hz6 : bk + 1 ≤ w6.heap.size:=t0b HK6.out
          have g5 : w6.cell? ⟨bx,5,none⟩ = some (.slice pa fs.length ca):=(by simp [World.cell?,HB6.out])
          have k0 : w6.cell? ⟨bk,0,none⟩ = some (.int .i64 0):=(by simp [World.cell?,HK6.out])
          have k1 : w6.cell? ⟨bk,1,none⟩ = some (.string ⟨#[97]⟩):=(by simp [World.cell?,HK6.out])
          have YX:=zH (show w6.drew.cell? ⟨bx,5,none⟩ = _ from g5)
          have YK:=zH (show w6.drew.cell? ⟨bk,0,none⟩ = _ from k0)
          have Hsd:=zH H6.out.src.drew
          go_wp2_with (first
            | ((with_reducible refine Lex.t0z ?_);refine fE (by repeat first | exact LexK.t0v | refine LexK.t0p rfl ?_ | refine LexK.t0q (by decide +kernel) ?_ | refine LexK.t0c rfl ⟨by omega,Hxb.out⟩ YX.out ?_ | refine LexK.t0c rfl ⟨by omega,Hkb.out⟩ YK.out ?_) ?_)
            | ((with_reducible refine Lex.t0r ?_);refine LexK.t0i (fun x=>x < bk + 1 ∧ x ≠ S.b) (by kernel_rfl) (by decide +kernel) ?_)
            | (with_reducible first | refine qH ?_ | refine LexK.t0u ?_ | refine LexK.t0y ?_)
            | ((with_reducible refine Lex.t1c ?_);first | (refine LexK.t0f hex7.out ?_) | (refine LexK.t0f hex8.out ?_) | (refine LexK.t0f hex9.out ?_) | (refine LexK.t0f (LexK.Ext.alloc _ _) ?_) | (refine LexK.t0f (LexK.Ext.refl _) ?_))
            | (go_at_call 24;first
                | (refine (t1a S 2 w7 Hs7.out.src (by omega)).mono ?_;rintro e w8 ⟨y2,rfl,hs,h8,h9,-⟩;have h9:=h9 (by decide);have hex8:=zH (t2v hs (show bk + 1 ≤ w7.heap.size by have:=Hs7.out.size;exact Nat.le_trans hz6 this));have Hs8:=zH (Hs7.out.trans hs);have hz8 : bk + 1 ≤ w8.heap.size:=Nat.le_trans hz6 Hs8.out.size;have Ho8:=zH (Hs8.out.owns (t1n (Hs6.out.owns Ho.out (by omega))) (by omega));generalize hbt : (y2 == 1) = bt;clear hs)
                | (refine (t1a S n w6.drew Hsd.out (by omega)).mono ?_;rintro e w7 ⟨y1,rfl,hs,h6,h7,-⟩;have h7:=h7 (by omega);have hex7:=zH (t2v hs (by show bk + 1 ≤ w6.heap.size;omega));have Hs7:=zH hs;clear hs))
            | (at_builtin;go_loud (refine t0k rfl (.tmp 28) (.tmp 40) 45 rfl 75 (by kernel_rfl) tak rfl (by decide) (by decide) (bk + 1) _ w8.heap.size [.int .i64 0,.string ⟨#[97]⟩,.int .i64 y1,.bool bt] (heap_alloc_new w8 _) (Nat.le_trans hz8 (by simp)) rfl (by intro u hu;simp at hu;rcases hu with rfl | rfl | rfl | rfl <;> rfl) (.slice pa fs.length ca) fs.length xs rfl (t0d Ho8.out ((Below.refl _ _).alloc (Nat.le_refl _) _) (Nat.le_refl _)) (by omega) rfl ?_);intro v9 w9 ho9 hf9;have hb9:=(hf9.below (Nat.le_trans hz8 (by simp)) (by simp) fun g hg=>(Ho8.out.lt g hg).1);have hex9:=zH (show LexK.Ext (fun x=>x < bk + 1 ∧ x ≠ S.b) (w8.alloc (.cells #[.int .i64 0,.string ⟨#[97]⟩,.int .i64 y1,.bool bt] 75)) w9 from t4o hb9);have Hb9:=zH (((Below.refl w8.heap.size w8).alloc (Nat.le_refl _) (.cells #[.int .i64 0,.string ⟨#[97]⟩,.int .i64 y1,.bool bt] 75)).mono hz8 |>.trans hb9);obtain ⟨p9,c9,rfl⟩:=t0m ho9;have Ho9:=zH ho9;have hB9:=(Hb9.out.block bx (by omega)).trans ((Hs8.out.block (by show bx < w6.heap.size;omega) Hxb.out).trans HB6.out);have HB9:=zH hB9;have HU:=zH (Upd.set (i:=5) (v:=.slice p9 (fs.length + 1) c9) (Upd.refl hB9));have hz0 : w9.cell? ⟨bx,5,none⟩ = some (.slice pa fs.length ca):=(by simp [World.cell?,hB9]);have hz1 : w9.frozen? ⟨bx,5,none⟩ = false:=(by simp [World.frozen?,hB9]);clear ho9 hf9 hb9 hB9))
          have hBA:=HU.out.blk
          refine ⟨⟨1,fs ++ [⟨⟨0,⟨#[97]⟩⟩,y1,bt⟩],xs ++ [.int .i64 0,.string ⟨#[97]⟩,.int .i64 y1,.bool bt],.slice p9 (fs.length + 1) c9,rfl,by omega,by rw [List.length_append];show fs.length + 1 ≤ _;omega,by simpa using hBA,by rw [List.length_append];exact t1r Ho9.out HU.out (by omega),Hc.out.append (Ch.single rfl (show FC ⟨⟨0,⟨#[97]⟩⟩,y1,bt⟩ [.int .i64 0,.string ⟨#[97]⟩,.int .i64 y1,.bool bt] from rfl)),?_,fun f hf=>?_,?_,?_,((H6.out.drew.trans Hs8.out).app (Hb9.out.mono (by omega))).app (HU.out.below (by omega))⟩,by simp [intOf]⟩
          · rw [List.map_append]
            exact List.mem_append_right _ (List.mem_map.2 ⟨_,Hks.out,rfl⟩)
          · rcases List.mem_append.1 hf with hf | hf
            · exact HN.out f hf
            · rw [List.mem_singleton.1 hf];exact ⟨h6,h7⟩
          · exact (HU.out.other bk (by omega)).trans ((Hb9.out.block _ (by omega)).trans ((Hs8.out.block (by show bk < w6.heap.size;omega) Hkb.out).trans HK6.out))
          · exact (HU.out.other w.heap.size (by omega)).trans ((Hb9.out.block _ (by omega)).trans ((Hs8.out.block (by show w.heap.size < w6.heap.size;omega) Hb.out).trans ((Hs6.out.block (by omega) Hb.out).trans HZr.out)))
      · go_upto_region 7 with (go_at_call 24;refine (t1a S 2 wq Hsr.out.src (by omega)).mono ?_;rintro e w6 ⟨y,rfl,hs,h4,h5,-⟩;have h5:=h5 (by decide);have Hs6:=zH hs;have H6:=zH (Hsr.out.trans hs);clear hs;rcases (show y = 0 ∨ y = 1 by omega) with rfl | rfl)
        · refine ⟨⟨2,fs,xs,.slice pa fs.length ca,rfl,by omega,by omega,(Hs6.out.block (by omega) Hxb.out).trans HBr.out,Hs6.out.owns Ho.out (by omega),Hc.out,?_,HN.out,(Hs6.out.block (by omega) Hkb.out).trans HKr.out,(Hs6.out.block (by omega) Hb.out).trans HZr.out,H6.out⟩,by simp [intOf]⟩
          exact List.mem_append_left _ Hks.out
        · have HB6:=zH ((Hs6.out.block (by omega) Hxb.out).trans HBr.out)
          have HK6:=zH ((Hs6.out.block (by omega) Hkb.out).trans HKr.out)
          have hz6 : bk + 1 ≤ w6.heap.size:=t0b HK6.out
          have g5 : w6.cell? ⟨bx,5,none⟩ = some (.slice pa fs.length ca):=(by simp [World.cell?,HB6.out])
          have k0 : w6.cell? ⟨bk,2,none⟩ = some (.int .i64 0):=(by simp [World.cell?,HK6.out])
          have k1 : w6.cell? ⟨bk,3,none⟩ = some (.string ⟨#[98]⟩):=(by simp [World.cell?,HK6.out])
          have YX:=zH (show w6.drew.cell? ⟨bx,5,none⟩ = _ from g5)
          have YK:=zH (show w6.drew.cell? ⟨bk,2,none⟩ = _ from k0)
          have Hsd:=zH H6.out.src.drew
          go_wp2_with (first
            | ((with_reducible refine Lex.t0z ?_);refine fE (by repeat first | exact LexK.t0v | refine LexK.t0p rfl ?_ | refine LexK.t0q (by decide +kernel) ?_ | refine LexK.t0c rfl ⟨by omega,Hxb.out⟩ YX.out ?_ | refine LexK.t0c rfl ⟨by omega,Hkb.out⟩ YK.out ?_) ?_)
            | ((with_reducible refine Lex.t0r ?_);refine LexK.t0i (fun x=>x < bk + 1 ∧ x ≠ S.b) (by kernel_rfl) (by decide +kernel) ?_)
            | (with_reducible first | refine qH ?_ | refine LexK.t0u ?_ | refine LexK.t0y ?_)
            | ((with_reducible refine Lex.t1c ?_);first | (refine LexK.t0f hex7.out ?_) | (refine LexK.t0f hex8.out ?_) | (refine LexK.t0f hex9.out ?_) | (refine LexK.t0f (LexK.Ext.alloc _ _) ?_) | (refine LexK.t0f (LexK.Ext.refl _) ?_))
            | (go_at_call 24;first
                | (refine (t1a S 2 w7 Hs7.out.src (by omega)).mono ?_;rintro e w8 ⟨y2,rfl,hs,h8,h9,-⟩;have h9:=h9 (by decide);have hex8:=zH (t2v hs (show bk + 1 ≤ w7.heap.size by have:=Hs7.out.size;exact Nat.le_trans hz6 this));have Hs8:=zH (Hs7.out.trans hs);have hz8 : bk + 1 ≤ w8.heap.size:=Nat.le_trans hz6 Hs8.out.size;have Ho8:=zH (Hs8.out.owns (t1n (Hs6.out.owns Ho.out (by omega))) (by omega));generalize hbt : (y2 == 1) = bt;clear hs)
                | (refine (t1a S n w6.drew Hsd.out (by omega)).mono ?_;rintro e w7 ⟨y1,rfl,hs,h6,h7,-⟩;have h7:=h7 (by omega);have hex7:=zH (t2v hs (by show bk + 1 ≤ w6.heap.size;omega));have Hs7:=zH hs;clear hs))
            | (at_builtin;go_loud (refine t0k rfl (.tmp 28) (.tmp 40) 45 rfl 75 (by kernel_rfl) tak rfl (by decide) (by decide) (bk + 1) _ w8.heap.size [.int .i64 0,.string ⟨#[98]⟩,.int .i64 y1,.bool bt] (heap_alloc_new w8 _) (Nat.le_trans hz8 (by simp)) rfl (by intro u hu;simp at hu;rcases hu with rfl | rfl | rfl | rfl <;> rfl) (.slice pa fs.length ca) fs.length xs rfl (t0d Ho8.out ((Below.refl _ _).alloc (Nat.le_refl _) _) (Nat.le_refl _)) (by omega) rfl ?_);intro v9 w9 ho9 hf9;have hb9:=(hf9.below (Nat.le_trans hz8 (by simp)) (by simp) fun g hg=>(Ho8.out.lt g hg).1);have hex9:=zH (show LexK.Ext (fun x=>x < bk + 1 ∧ x ≠ S.b) (w8.alloc (.cells #[.int .i64 0,.string ⟨#[98]⟩,.int .i64 y1,.bool bt] 75)) w9 from t4o hb9);have Hb9:=zH (((Below.refl w8.heap.size w8).alloc (Nat.le_refl _) (.cells #[.int .i64 0,.string ⟨#[98]⟩,.int .i64 y1,.bool bt] 75)).mono hz8 |>.trans hb9);obtain ⟨p9,c9,rfl⟩:=t0m ho9;have Ho9:=zH ho9;have hB9:=(Hb9.out.block bx (by omega)).trans ((Hs8.out.block (by show bx < w6.heap.size;omega) Hxb.out).trans HB6.out);have HB9:=zH hB9;have HU:=zH (Upd.set (i:=5) (v:=.slice p9 (fs.length + 1) c9) (Upd.refl hB9));have hz0 : w9.cell? ⟨bx,5,none⟩ = some (.slice pa fs.length ca):=(by simp [World.cell?,hB9]);have hz1 : w9.frozen? ⟨bx,5,none⟩ = false:=(by simp [World.frozen?,hB9]);clear ho9 hf9 hb9 hB9))
          have hBA:=HU.out.blk
          refine ⟨⟨2,fs ++ [⟨⟨0,⟨#[98]⟩⟩,y1,bt⟩],xs ++ [.int .i64 0,.string ⟨#[98]⟩,.int .i64 y1,.bool bt],.slice p9 (fs.length + 1) c9,rfl,by omega,by rw [List.length_append];show fs.length + 1 ≤ _;omega,by simpa using hBA,by rw [List.length_append];exact t1r Ho9.out HU.out (by omega),Hc.out.append (Ch.single rfl (show FC ⟨⟨0,⟨#[98]⟩⟩,y1,bt⟩ [.int .i64 0,.string ⟨#[98]⟩,.int .i64 y1,.bool bt] from rfl)),?_,fun f hf=>?_,?_,?_,((H6.out.drew.trans Hs8.out).app (Hb9.out.mono (by omega))).app (HU.out.below (by omega))⟩,by simp [intOf]⟩
          · rw [List.map_append]
            exact List.mem_append_right _ (List.mem_map.2 ⟨_,Hks.out,rfl⟩)
          · rcases List.mem_append.1 hf with hf | hf
            · exact HN.out f hf
            · rw [List.mem_singleton.1 hf];exact ⟨h6,h7⟩
          · exact (HU.out.other bk (by omega)).trans ((Hb9.out.block _ (by omega)).trans ((Hs8.out.block (by show bk < w6.heap.size;omega) Hkb.out).trans HK6.out))
          · exact (HU.out.other w.heap.size (by omega)).trans ((Hb9.out.block _ (by omega)).trans ((Hs8.out.block (by show w.heap.size < w6.heap.size;omega) Hb.out).trans ((Hs6.out.block (by omega) Hb.out).trans HZr.out)))
      · go_upto_region 7 with (go_at_call 24;refine (t1a S 2 wq Hsr.out.src (by omega)).mono ?_;rintro e w6 ⟨y,rfl,hs,h4,h5,-⟩;have h5:=h5 (by decide);have Hs6:=zH hs;have H6:=zH (Hsr.out.trans hs);clear hs;rcases (show y = 0 ∨ y = 1 by omega) with rfl | rfl)
        · refine ⟨⟨3,fs,xs,.slice pa fs.length ca,rfl,by omega,by omega,(Hs6.out.block (by omega) Hxb.out).trans HBr.out,Hs6.out.owns Ho.out (by omega),Hc.out,?_,HN.out,(Hs6.out.block (by omega) Hkb.out).trans HKr.out,(Hs6.out.block (by omega) Hb.out).trans HZr.out,H6.out⟩,by simp [intOf]⟩
          exact List.mem_append_left _ Hks.out
        · have HB6:=zH ((Hs6.out.block (by omega) Hxb.out).trans HBr.out)
          have HK6:=zH ((Hs6.out.block (by omega) Hkb.out).trans HKr.out)
          have hz6 : bk + 1 ≤ w6.heap.size:=t0b HK6.out
          have g5 : w6.cell? ⟨bx,5,none⟩ = some (.slice pa fs.length ca):=(by simp [World.cell?,HB6.out])
          have k0 : w6.cell? ⟨bk,4,none⟩ = some (.int .i64 1):=(by simp [World.cell?,HK6.out])
          have k1 : w6.cell? ⟨bk,5,none⟩ = some (.string ⟨#[115]⟩):=(by simp [World.cell?,HK6.out])
          have YX:=zH (show w6.drew.cell? ⟨bx,5,none⟩ = _ from g5)
          have YK:=zH (show w6.drew.cell? ⟨bk,4,none⟩ = _ from k0)
          have Hsd:=zH H6.out.src.drew
          go_wp2_with (first
            | ((with_reducible refine Lex.t0z ?_);refine fE (by repeat first | exact LexK.t0v | refine LexK.t0p rfl ?_ | refine LexK.t0q (by decide +kernel) ?_ | refine LexK.t0c rfl ⟨by omega,Hxb.out⟩ YX.out ?_ | refine LexK.t0c rfl ⟨by omega,Hkb.out⟩ YK.out ?_) ?_)
            | ((with_reducible refine Lex.t0r ?_);refine LexK.t0i (fun x=>x < bk + 1 ∧ x ≠ S.b) (by kernel_rfl) (by decide +kernel) ?_)
            | (with_reducible first | refine qH ?_ | refine LexK.t0u ?_ | refine LexK.t0y ?_)
            | ((with_reducible refine Lex.t1c ?_);first | (refine LexK.t0f hex7.out ?_) | (refine LexK.t0f hex8.out ?_) | (refine LexK.t0f hex9.out ?_) | (refine LexK.t0f (LexK.Ext.alloc _ _) ?_) | (refine LexK.t0f (LexK.Ext.refl _) ?_))
            | (go_at_call 24;first
                | (refine (t1a S 2 w7 Hs7.out.src (by omega)).mono ?_;rintro e w8 ⟨y2,rfl,hs,h8,h9,-⟩;have h9:=h9 (by decide);have hex8:=zH (t2v hs (show bk + 1 ≤ w7.heap.size by have:=Hs7.out.size;exact Nat.le_trans hz6 this));have Hs8:=zH (Hs7.out.trans hs);have hz8 : bk + 1 ≤ w8.heap.size:=Nat.le_trans hz6 Hs8.out.size;have Ho8:=zH (Hs8.out.owns (t1n (Hs6.out.owns Ho.out (by omega))) (by omega));generalize hbt : (y2 == 1) = bt;clear hs)
                | (refine (t1a S n w6.drew Hsd.out (by omega)).mono ?_;rintro e w7 ⟨y1,rfl,hs,h6,h7,-⟩;have h7:=h7 (by omega);have hex7:=zH (t2v hs (by show bk + 1 ≤ w6.heap.size;omega));have Hs7:=zH hs;clear hs))
            | (at_builtin;go_loud (refine t0k rfl (.tmp 28) (.tmp 40) 45 rfl 75 (by kernel_rfl) tak rfl (by decide) (by decide) (bk + 1) _ w8.heap.size [.int .i64 1,.string ⟨#[115]⟩,.int .i64 y1,.bool bt] (heap_alloc_new w8 _) (Nat.le_trans hz8 (by simp)) rfl (by intro u hu;simp at hu;rcases hu with rfl | rfl | rfl | rfl <;> rfl) (.slice pa fs.length ca) fs.length xs rfl (t0d Ho8.out ((Below.refl _ _).alloc (Nat.le_refl _) _) (Nat.le_refl _)) (by omega) rfl ?_);intro v9 w9 ho9 hf9;have hb9:=(hf9.below (Nat.le_trans hz8 (by simp)) (by simp) fun g hg=>(Ho8.out.lt g hg).1);have hex9:=zH (show LexK.Ext (fun x=>x < bk + 1 ∧ x ≠ S.b) (w8.alloc (.cells #[.int .i64 1,.string ⟨#[115]⟩,.int .i64 y1,.bool bt] 75)) w9 from t4o hb9);have Hb9:=zH (((Below.refl w8.heap.size w8).alloc (Nat.le_refl _) (.cells #[.int .i64 1,.string ⟨#[115]⟩,.int .i64 y1,.bool bt] 75)).mono hz8 |>.trans hb9);obtain ⟨p9,c9,rfl⟩:=t0m ho9;have Ho9:=zH ho9;have hB9:=(Hb9.out.block bx (by omega)).trans ((Hs8.out.block (by show bx < w6.heap.size;omega) Hxb.out).trans HB6.out);have HB9:=zH hB9;have HU:=zH (Upd.set (i:=5) (v:=.slice p9 (fs.length + 1) c9) (Upd.refl hB9));have hz0 : w9.cell? ⟨bx,5,none⟩ = some (.slice pa fs.length ca):=(by simp [World.cell?,hB9]);have hz1 : w9.frozen? ⟨bx,5,none⟩ = false:=(by simp [World.frozen?,hB9]);clear ho9 hf9 hb9 hB9))
          have hBA:=HU.out.blk
          refine ⟨⟨3,fs ++ [⟨⟨1,⟨#[115]⟩⟩,y1,bt⟩],xs ++ [.int .i64 1,.string ⟨#[115]⟩,.int .i64 y1,.bool bt],.slice p9 (fs.length + 1) c9,rfl,by omega,by rw [List.length_append];show fs.length + 1 ≤ _;omega,by simpa using hBA,by rw [List.length_append];exact t1r Ho9.out HU.out (by omega),Hc.out.append (Ch.single rfl (show FC ⟨⟨1,⟨#[115]⟩⟩,y1,bt⟩ [.int .i64 1,.string ⟨#[115]⟩,.int .i64 y1,.bool bt] from rfl)),?_,fun f hf=>?_,?_,?_,((H6.out.drew.trans Hs8.out).app (Hb9.out.mono (by omega))).app (HU.out.below (by omega))⟩,by simp [intOf]⟩
          · rw [List.map_append]
            exact List.mem_append_right _ (List.mem_map.2 ⟨_,Hks.out,rfl⟩)
          · rcases List.mem_append.1 hf with hf | hf
            · exact HN.out f hf
            · rw [List.mem_singleton.1 hf];exact ⟨h6,h7⟩
          · exact (HU.out.other bk (by omega)).trans ((Hb9.out.block _ (by omega)).trans ((Hs8.out.block (by show bk < w6.heap.size;omega) Hkb.out).trans HK6.out))
          · exact (HU.out.other w.heap.size (by omega)).trans ((Hb9.out.block _ (by omega)).trans ((Hs8.out.block (by show w.heap.size < w6.heap.size;omega) Hb.out).trans ((Hs6.out.block (by omega) Hb.out).trans HZr.out)))
    · obtain rfl : i = 3:=by omega
      obtain ⟨⟨g0,g1,g2,g3⟩,g4,g5,g6,g7⟩:=t1f hBr
      clear hBr ho hc hks hN hKr hZr hsr
      go_wp2_with (with_reducible refine wpList_store_row rfl 48 (.tmp 4) (.tmp 43) rfl _ _ rfl rfl _ _ HZr.out (by kernel_rfl) (by kernel_rfl) (by kernel_rfl) ?_)
      refine bodyPost_ret (results_cell_row rfl _ _ w.heap.size 48 _ (0,0) _ rfl (setRow_heap _ _ _ _ _ _ HZr.out) rfl rfl (by kernel_rfl)) rfl ?_
      obtain ⟨pz,cz,ez,hrw⟩:=t1k (t1o Ho.out (t1g _)) Hc.out (by omega)
      injection ez with ez1 _ ez3
      subst ez1 ez3
      exact ⟨_,⟨13,0,0,t0t,[],fs,r0,r1⟩,rfl,t4h ⟨none,0,_,_,rfl,IS.nil' _,hrw⟩ (show lo (bk + 1) w.heap.size = true by simp [lo];omega) (fun k hk=>by simp [lo];omega) _,⟨rfl,rfl,rfl,rfl,rfl,Hks.out,HN.out,⟨h0,h1⟩,h2,h3⟩,Hsr.out.row (Nat.le_refl _) Hb.out _⟩
end Go.Proofs.YtjgldaaofdpcgaaGreat
