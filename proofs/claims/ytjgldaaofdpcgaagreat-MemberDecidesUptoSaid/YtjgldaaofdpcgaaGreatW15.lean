/- Walks and plain facts for the laws of membership, for all values and types that the heap holds (texts Pv E0 X0). -/
import Derived.Test.YtjgldaaofdpcgaaGreatRows
import Derived.Deep.OwnRows
import Derived.Test.YtjgldaaofdpcgaaGreatW03
import Derived.Test.YtjgldaaofdpcgaaGreatW04
import Derived.Test.YtjgldaaofdpcgaaGreatW14
set_option linter.unusedVariables false
set_option linter.unusedSimpArgs false
namespace Go.Proofs.YtjgldaaofdpcgaaGreat
open Go.ChangeShapes Go.WideShapes Go.ChangeAt Go.RowKit Go.Deep
set_option maxRecDepth 100000

theorem t3o {H : Type} (d : DataW H) : 1 ≤ Rows.uptoBulk d:=by
  cases d with
  | lit l=>cases l <;> simp [Rows.uptoBulk]
  | nil=>simp [Rows.uptoBulk]
  | ptr d=>simp [Rows.uptoBulk]
  | slice elems spare=>simp [Rows.uptoBulk]
  | agg parts=>simp [Rows.uptoBulk]
  | iface t d=>simp [Rows.uptoBulk]
  | map entries=>simp [Rows.uptoBulk]
  | held h=>simp [Rows.uptoBulk]
theorem tdo {H : Type} : ∀ l : List (DataW H),Rows.uptoBulkAll l = (l.map Rows.uptoBulk).sum
  | []=>rfl
  | x :: r=>by simp [Rows.uptoBulkAll,tdo r]
theorem tiy {l : List Nat} {i : Nat} (h : i < l.length) : l[i] ≤ l.sum:=by
  induction l generalizing i with
  | nil=>simp at h
  | cons x r ih =>
    cases i with
    | zero=>simp
    | succ i=>have:=ih (i:=i) (by simpa using h);simp only [List.getElem_cons_succ,List.sum_cons];omega
theorem tf3 : ∀ {l m : List Nat},l.length = m.length → (∀ i (h : i < l.length) (h2 : i < m.length),l[i] ≤ m[i]) → l.sum ≤ m.sum
  | [],[],_,_=>by simp
  | x :: r,y :: s,hl,h=>by
    have h0:=h 0 (by simp) (by simp)
    have:=tf3 (l:=r) (m:=s) (by simpa using hl) fun i h1 h2=>by have:=h (i + 1) (by simpa using h1) (by simpa using h2);simp only [List.getElem_cons_succ] at this;exact this
    simp only [List.sum_cons];simp at h0;omega
theorem thv {l : List Nat} (h : ∀ i (hi : i < l.length),1 ≤ l[i]) : l.length ≤ l.sum:=by
  induction l with
  | nil=>simp
  | cons x r ih =>
    have h0:=h 0 (by simp)
    have:=ih fun i hi=>by have:=h (i + 1) (by simpa using hi);simp only [List.getElem_cons_succ] at this;exact this
    simp only [List.length_cons,List.sum_cons];simp at h0;omega
theorem tei {α : Type} {w : World} {a o c sz : Nat} {l : List α} {P : α → List Value → Prop} (hl : l.length ≤ c) (h64 : l.length ≤ 9223372036854775807) (hsz : 0 < sz)
    (E : ∀ i (h : i < l.length),∃ es : List Value,es.length = sz ∧ (∀ j,j < sz → w.cell? ⟨a,o + (i * sz + j),none⟩ = es[j]?) ∧ P l[i] es) : Rw w (some ⟨a,o,none⟩) c sz l P:=by
  obtain ⟨f,hf⟩ : ∃ f : Nat → Value,f = fun j=>(w.cell? ⟨a,o + j,none⟩).getD (.int .i64 0):=⟨_,rfl⟩
  have hget : ∀ j,j < l.length * sz → ∃ u,w.cell? ⟨a,o + j,none⟩ = some u ∧ f j = u:=fun j hj=>by
    have hi : j / sz < l.length:=Nat.div_lt_of_lt_mul (by rwa [Nat.mul_comm])
    obtain ⟨es,e1,e2,-⟩:=E _ hi
    have hm:=Nat.mod_lt j hsz
    have h3:=e2 (j % sz) hm
    have h4 : j / sz * sz + j % sz = j:=by rw [Nat.mul_comm];exact Nat.div_add_mod j sz
    rw [h4,List.getElem?_eq_getElem (by omega)] at h3
    exact ⟨_,h3,by rw [hf];simp [h3]⟩
  refine ⟨⟨hl,h64⟩,(List.range (l.length * sz)).map f,⟨by simp,fun h0=>⟨a,o,rfl,?_,fun j u hu=>?_⟩⟩,fun i hi=>?_⟩
  · obtain ⟨u,hu,-⟩:=hget 0 (Nat.mul_pos h0 hsz)
    exact OpenFields.lt_of_cell hu
  · have hj : j < l.length * sz:=by have:=(List.getElem?_eq_some_iff.1 hu).1;simpa using this
    obtain ⟨v,h1,h2⟩:=hget j hj
    rw [List.getElem?_map,List.getElem?_range hj] at hu
    simp only [Option.map_some,Option.some.injEq] at hu
    rw [h1,← hu,h2]
  · obtain ⟨es,e1,e2,e3⟩:=E i hi
    have : (((List.range (l.length * sz)).map f).drop (i * sz)).take sz = es:=by
      have hle : (i + 1) * sz ≤ l.length * sz:=Nat.mul_le_mul_right _ hi
      rw [Nat.add_mul,Nat.one_mul] at hle
      refine List.ext_getElem? fun j=>?_
      by_cases hj : j < sz
      · rw [List.getElem?_take_of_lt hj,List.getElem?_drop,List.getElem?_map,List.getElem?_range (by omega)]
        obtain ⟨u,h1,h2⟩:=hget (i * sz + j) (by omega)
        rw [← e2 j hj,h1,← h2];rfl
      · rw [List.getElem?_eq_none (by simp;omega),List.getElem?_eq_none (by omega)]
    rw [this];exact e3
section
variable {H : Type} {enc : TypeId × Value → H} {W : World} {spare : Nat → Bool} {held : Bool}
theorem t6a {α : Type} {sz : Nat} {t e : TypeId} {fuel B : Nat} {cs : List Value} {x : DataW H × List MemPlace} {P : α → List Value → Prop} {μ : α → Nat} (ht : Tryz.prog.underlying t = some (.slice e)) (hc : Tryz.prog.cellsOf e = sz) (hsz : 0 < sz)
    (hel : ∀ n es y,es.length = sz → DataW.trod enc Tryz.prog W 0 spare held n e es = some y → Rows.uptoBulk y.1 ≤ B → ∃ X,P X es ∧ μ X ≤ Rows.uptoBulk y.1)
    (h : DataW.trod enc Tryz.prog W 0 spare held fuel t cs = some x) (hB : Rows.uptoBulk x.1 ≤ B + 1) :
    ∃ p c,∃ l : List α,cs = [.slice p l.length c] ∧ Rw W p c sz l P ∧ (l.map μ).sum + 1 ≤ Rows.uptoBulk x.1 ∧ l.length + 1 ≤ Rows.uptoBulk x.1:=by
  rcases open_slice ht h with ⟨rfl,rfl⟩ | ⟨a,len,cap,m,n,D,Pl,rfl,-,hl,hm,hmm,rfl,hi⟩
  · exact ⟨none,0,[],rfl,Rw.nil _ _ _ _ _,by simp [Rows.uptoBulk],by simp [Rows.uptoBulk]⟩
  rw [hc] at hi
  have hbk : ((List.range len).map fun i=>Rows.uptoBulk (D i)).sum + 1 ≤ Rows.uptoBulk (DataW.slice ((List.range len).map D) ((List.range (m - len)).map fun j=>D (len + j))):=by
    simp only [Rows.uptoBulk,tdo,List.map_map]
    show ((List.range len).map (Rows.uptoBulk ∘ D)).sum + 1 ≤ _
    omega
  have hDi : ∀ i,i < len → Rows.uptoBulk (D i) ≤ B:=fun i hil=>by
    have:=tiy (l:=(List.range len).map fun i=>Rows.uptoBulk (D i)) (i:=i) (by simpa using hil)
    simp only [List.getElem_map,List.getElem_range] at this
    simp only at hB
    omega
  obtain ⟨ab,off,spot⟩:=a
  by_cases hz : len = 0
  · subst hz
    exact ⟨some ⟨ab,off,spot⟩,cap,[],rfl,Rw.nil _ _ _ _ _,by simpa using hbk,by simpa using hbk⟩
  have him : ∀ i,i < len → i < m:=fun i hil=>by rw [hmm];split <;> omega
  have hsp : spot = none:=by
    obtain ⟨es,h1,h2⟩:=hi 0 (him 0 (by omega))
    obtain ⟨_,h3,h4⟩:=World.cells?_some h1
    have h5:=h4 0 hsz
    rw [List.getElem?_eq_getElem (by omega)] at h5
    simpa [Addr.add] using World.cell?_spot h5
  subst hsp
  obtain ⟨l,hll,hP⟩:=ta4 (P:=fun i (X : α)=>(∃ es : List Value,es.length = sz ∧ (∀ j,j < sz → W.cell? ⟨ab,off + (i * sz + j),none⟩ = es[j]?) ∧ P X es) ∧ μ X ≤ Rows.uptoBulk (D i)) len (fun i hil=>by
    obtain ⟨es,h1,h2⟩:=hi i (him i hil)
    obtain ⟨_,h3,h4⟩:=World.cells?_some h1
    obtain ⟨X,q1,q2⟩:=hel n es _ h3 h2 (hDi i hil)
    refine ⟨X,⟨es,h3,fun j hj=>?_,q1⟩,q2⟩
    have:=h4 j hj
    rw [add_add,OpenFields.add_none] at this
    exact this)
  have hsum : (l.map μ).sum ≤ ((List.range len).map fun i=>Rows.uptoBulk (D i)).sum:=tf3 (by simp [hll]) fun i h1 h2=>by
    simp only [List.getElem_map,List.getElem_range]
    exact (hP i (by simpa using h1)).2
  have hlen : len ≤ ((List.range len).map fun i=>Rows.uptoBulk (D i)).sum:=by
    have:=thv (l:=(List.range len).map fun i=>Rows.uptoBulk (D i)) fun i hi=>by simp only [List.getElem_map];exact t3o _
    simpa using this
  have hmx : cap ≤ 9223372036854775807:=Nat.le_trans hm (by decide)
  refine ⟨some ⟨ab,off,none⟩,cap,l,by rw [hll],tei (by omega) (by omega) hsz fun i h=>(hP i h).1,Nat.le_trans (by omega) hbk,Nat.le_trans (by omega) hbk⟩
theorem tgt {n : Nat} {es : List Value} {y : DataW H × List MemPlace} (h : DataW.trod enc Tryz.prog W 0 spare held n 73 es = some y) : ∃ X : KK,KC X es:=by
  have c3 : Tryz.prog.cellsOf 3 = 1:=by kernel_rfl
  have c9 : Tryz.prog.cellsOf 9 = 1:=by kernel_rfl
  have c73 : Tryz.prog.cellsOf 73 = 2:=by kernel_rfl
  obtain ⟨ys,m,-,-,hl,-,hf⟩:=DataW.trod_struct Tryz.underlying73 h
  rw [c73] at hl
  obtain ⟨k0,z0,f0⟩:=OpenFields.field_of Tryz.underlying73 h 0 3 0 1 rfl c3
  obtain ⟨k1,z1,f1⟩:=OpenFields.field_of Tryz.underlying73 h 1 9 1 1 rfl c9
  match es,hl with
  | [a,b],_ =>
    obtain ⟨q,e1,-⟩:=OpenFields.int_of Tryz.underlying3 f0
    obtain ⟨s,e2,-⟩:=OpenFields.string_of Tryz.underlying9 f1
    simp only [List.drop_zero,List.drop_succ_cons,List.take_succ_cons,List.take_zero,List.cons.injEq,and_true] at e1 e2
    subst e1 e2
    exact ⟨⟨q,s⟩,rfl⟩
theorem tiz {n : Nat} {es : List Value} {y : DataW H × List MemPlace} (h : DataW.trod enc Tryz.prog W 0 spare held n 9 es = some y) : ∃ X : ByteArray,SC X es:=by
  obtain ⟨s,e,-⟩:=OpenFields.string_of Tryz.underlying9 h
  exact ⟨s,e⟩
theorem tgu : ∀ (B fuel : Nat) (cs : List Value) (x : DataW H × List MemPlace),DataW.trod enc Tryz.prog W 0 spare held fuel 28 cs = some x → Rows.uptoBulk x.1 ≤ B → ∃ V : VV,VS W B V cs ∧ V.nodes ≤ Rows.uptoBulk x.1
  | 0,_,_,x,_,hB=>by have:=t3o x.1;omega
  | B + 1,fuel,cs,x,h,hB=>by
    have ih:=tgu B
    have c2 : Tryz.prog.cellsOf 2 = 1:=by kernel_rfl
    have c3 : Tryz.prog.cellsOf 3 = 1:=by kernel_rfl
    have c4 : Tryz.prog.cellsOf 4 = 1:=by kernel_rfl
    have c9 : Tryz.prog.cellsOf 9 = 1:=by kernel_rfl
    have c23 : Tryz.prog.cellsOf 23 = 1:=by kernel_rfl
    have c24 : Tryz.prog.cellsOf 24 = 1:=by kernel_rfl
    have c25 : Tryz.prog.cellsOf 25 = 1:=by kernel_rfl
    have c26 : Tryz.prog.cellsOf 26 = 1:=by kernel_rfl
    have c28 : Tryz.prog.cellsOf 28 = 7:=by kernel_rfl
    have c55 : Tryz.prog.cellsOf 55 = 9:=by kernel_rfl
    have c73 : Tryz.prog.cellsOf 73 = 2:=by kernel_rfl
    obtain ⟨ys,m,-,rfl,hl,hyl,hf⟩:=DataW.trod_struct Tryz.underlying28 h
    rw [c28] at hl
    have g0 : DataW.trod enc Tryz.prog W 0 spare held m 3 ((cs.drop 0).take (Tryz.prog.cellsOf 3)) = ys[0]?:=hf 0 _ rfl
    have g1 : DataW.trod enc Tryz.prog W 0 spare held m 2 ((cs.drop 1).take (Tryz.prog.cellsOf 2)) = ys[1]?:=hf 1 _ rfl
    have g2 : DataW.trod enc Tryz.prog W 0 spare held m 9 ((cs.drop 2).take (Tryz.prog.cellsOf 9)) = ys[2]?:=hf 2 _ rfl
    have g3 : DataW.trod enc Tryz.prog W 0 spare held m 23 ((cs.drop 3).take (Tryz.prog.cellsOf 23)) = ys[3]?:=hf 3 _ rfl
    have g4 : DataW.trod enc Tryz.prog W 0 spare held m 24 ((cs.drop 4).take (Tryz.prog.cellsOf 24)) = ys[4]?:=hf 4 _ rfl
    have g5 : DataW.trod enc Tryz.prog W 0 spare held m 25 ((cs.drop 5).take (Tryz.prog.cellsOf 25)) = ys[5]?:=hf 5 _ rfl
    have g6 : DataW.trod enc Tryz.prog W 0 spare held m 26 ((cs.drop 6).take (Tryz.prog.cellsOf 26)) = ys[6]?:=hf 6 _ rfl
    match ys,hyl with
    | [y0,y1,y2,y3,y4,y5,y6],_ =>
    match cs,hl with
    | [a0,a1,a2,a3,a4,a5,a6],_ =>
    simp only [c2,c3,c9,c23,c24,c25,c26,List.drop_zero,List.drop_succ_cons,List.take_succ_cons,List.take_zero,List.getElem?_cons_zero,List.getElem?_cons_succ] at g0 g1 g2 g3 g4 g5 g6
    simp only [List.map_cons,List.map_nil,Rows.uptoBulk,Rows.uptoBulkAll] at hB ⊢
    have b0:=t3o y0.1;have b1:=t3o y1.1;have b2:=t3o y2.1;have b3:=t3o y3.1;have b4:=t3o y4.1;have b5:=t3o y5.1;have b6:=t3o y6.1
    obtain ⟨k,e0,-⟩:=OpenFields.int_of Tryz.underlying3 g0
    obtain ⟨u,e1,-⟩:=OpenFields.int_of Tryz.underlying2 g1
    obtain ⟨s,e2,-⟩:=OpenFields.string_of Tryz.underlying9 g2
    obtain ⟨p3,q3,l3,e3,r3,n3,-⟩:=t6a (μ:=VV.nodes) (B:=B) Tryz.underlying23 c28 (by decide) (fun n es y _ h hb=>ih n es y h hb) g3 (by omega)
    obtain ⟨p4,q4,l4,e4,r4,-,-⟩:=t6a (μ:=fun _=>0) (B:=B) Tryz.underlying24 c73 (by decide) (fun n es y _ h _=>(tgt h).imp fun _ h=>⟨h,Nat.zero_le _⟩) g4 (by omega)
    obtain ⟨p6,q6,l6,e6,r6,-,-⟩:=t6a (μ:=fun _=>0) (B:=B) Tryz.underlying26 c9 (by decide) (fun n es y _ h _=>(tiz h).imp fun _ h=>⟨h,Nat.zero_le _⟩) g6 (by omega)
    obtain ⟨p5,q5,l5,e5,r5,n5,-⟩:=t6a (P:=ES W B) (μ:=EE.nodes) (B:=B) Tryz.underlying25 c55 (by decide) (fun n es y hes h hb=>by
      obtain ⟨zs,m2,-,rfl,-,hzl,hf2⟩:=DataW.trod_struct Tryz.underlying55 h
      have h0 : DataW.trod enc Tryz.prog W 0 spare held m2 23 ((es.drop 0).take (Tryz.prog.cellsOf 23)) = zs[0]?:=hf2 0 _ rfl
      have h1 : DataW.trod enc Tryz.prog W 0 spare held m2 4 ((es.drop 1).take (Tryz.prog.cellsOf 4)) = zs[1]?:=hf2 1 _ rfl
      have h2 : DataW.trod enc Tryz.prog W 0 spare held m2 28 ((es.drop 2).take (Tryz.prog.cellsOf 28)) = zs[2]?:=hf2 2 _ rfl
      match zs,hzl with
      | [z0,z1,z2],_ =>
      match es,hes with
      | v0 :: v1 :: rs,hes =>
      simp only [c4,c23,c28,List.drop_zero,List.drop_succ_cons,List.take_succ_cons,List.take_zero,List.getElem?_cons_zero,List.getElem?_cons_succ] at h0 h1 h2
      have hr : rs.length = 7:=by simpa using hes
      rw [List.take_of_length_le (by omega)] at h2
      simp only [List.map_cons,List.map_nil,Rows.uptoBulk,Rows.uptoBulkAll] at hb ⊢
      obtain ⟨p,q,l,e,r,nn,-⟩:=t6a (μ:=VV.nodes) (B:=B) Tryz.underlying23 c28 (by decide) (fun n es y _ h hb=>ih n es y h hb) h0 (by omega)
      obtain ⟨b,e1,-⟩:=DataW.trod_bool Tryz.underlying4 h1
      obtain ⟨R,hR,nR⟩:=ih _ _ _ h2 (by omega)
      simp only [List.cons.injEq,and_true] at e e1
      subst e e1
      refine ⟨.mk l b R,⟨p,q,rs,rfl,r,hR⟩,?_⟩
      rw [EE.nodes,t2b]
      split <;> omega) g5 (by omega)
    simp only [List.cons.injEq,and_true] at e0 e1 e2 e3 e4 e5 e6
    subst e0 e1 e2 e3 e4 e5 e6
    refine ⟨.mk k u s l3 l4 l5 l6,⟨p3,q3,p4,q4,p5,q5,p6,q6,rfl,r3,r4,r5,r6⟩,?_⟩
    rw [VV.nodes,t2b,t5l]
    omega
theorem tjo {n : Nat} {es : List Value} {y : DataW H × List MemPlace} (h : DataW.trod enc Tryz.prog W 0 spare held n 75 es = some y) : ∃ X : FF,FC X es:=by
  have c3 : Tryz.prog.cellsOf 3 = 1:=by kernel_rfl
  have c4 : Tryz.prog.cellsOf 4 = 1:=by kernel_rfl
  have c73 : Tryz.prog.cellsOf 73 = 2:=by kernel_rfl
  have c75 : Tryz.prog.cellsOf 75 = 4:=by kernel_rfl
  obtain ⟨ys,m,-,-,hl,hyl,hf⟩:=DataW.trod_struct Tryz.underlying75 h
  rw [c75] at hl
  have g0 : DataW.trod enc Tryz.prog W 0 spare held m 73 ((es.drop 0).take (Tryz.prog.cellsOf 73)) = ys[0]?:=hf 0 _ rfl
  have g1 : DataW.trod enc Tryz.prog W 0 spare held m 3 ((es.drop 2).take (Tryz.prog.cellsOf 3)) = ys[1]?:=hf 1 _ rfl
  have g2 : DataW.trod enc Tryz.prog W 0 spare held m 4 ((es.drop 3).take (Tryz.prog.cellsOf 4)) = ys[2]?:=hf 2 _ rfl
  match ys,hyl with
  | [y0,y1,y2],_ =>
  match es,hl with
  | [a0,a1,a2,a3],_ =>
  simp only [c3,c4,c73,List.drop_zero,List.drop_succ_cons,List.take_succ_cons,List.take_zero,List.getElem?_cons_zero,List.getElem?_cons_succ] at g0 g1 g2
  obtain ⟨k,e0⟩:=tgt g0
  obtain ⟨u,e1,-⟩:=OpenFields.int_of Tryz.underlying3 g1
  obtain ⟨b,e2,-⟩:=DataW.trod_bool Tryz.underlying4 g2
  unfold KC at e0
  simp only [List.cons.injEq,and_true] at e0 e1 e2
  obtain ⟨e0,e0'⟩:=e0
  subst e0 e0' e1 e2
  exact ⟨⟨k,u,b⟩,rfl⟩
theorem tj0 {fuel : Nat} {cs : List Value} {x : DataW H × List MemPlace} (h : DataW.trod enc Tryz.prog W 0 spare held fuel 48 cs = some x) : ∃ X : TN,NC W X cs ∧ X.kids.length ≤ Rows.uptoBulk x.1 ∧ X.fields.length ≤ Rows.uptoBulk x.1 ∧ X.kids.length ≤ 9223372036854775807:=by
  have c2 : Tryz.prog.cellsOf 2 = 1:=by kernel_rfl
  have c3 : Tryz.prog.cellsOf 3 = 1:=by kernel_rfl
  have c9 : Tryz.prog.cellsOf 9 = 1:=by kernel_rfl
  have c22 : Tryz.prog.cellsOf 22 = 1:=by kernel_rfl
  have c45 : Tryz.prog.cellsOf 45 = 1:=by kernel_rfl
  have c46 : Tryz.prog.cellsOf 46 = 2:=by kernel_rfl
  have c48 : Tryz.prog.cellsOf 48 = 8:=by kernel_rfl
  have c75 : Tryz.prog.cellsOf 75 = 4:=by kernel_rfl
  obtain ⟨ys,m,-,rfl,hl,hyl,hf⟩:=DataW.trod_struct Tryz.underlying48 h
  rw [c48] at hl
  have g0 : DataW.trod enc Tryz.prog W 0 spare held m 3 ((cs.drop 0).take (Tryz.prog.cellsOf 3)) = ys[0]?:=hf 0 _ rfl
  have g1 : DataW.trod enc Tryz.prog W 0 spare held m 2 ((cs.drop 1).take (Tryz.prog.cellsOf 2)) = ys[1]?:=hf 1 _ rfl
  have g2 : DataW.trod enc Tryz.prog W 0 spare held m 2 ((cs.drop 2).take (Tryz.prog.cellsOf 2)) = ys[2]?:=hf 2 _ rfl
  have g3 : DataW.trod enc Tryz.prog W 0 spare held m 9 ((cs.drop 3).take (Tryz.prog.cellsOf 9)) = ys[3]?:=hf 3 _ rfl
  have g4 : DataW.trod enc Tryz.prog W 0 spare held m 22 ((cs.drop 4).take (Tryz.prog.cellsOf 22)) = ys[4]?:=hf 4 _ rfl
  have g5 : DataW.trod enc Tryz.prog W 0 spare held m 45 ((cs.drop 5).take (Tryz.prog.cellsOf 45)) = ys[5]?:=hf 5 _ rfl
  have g6 : DataW.trod enc Tryz.prog W 0 spare held m 46 ((cs.drop 6).take (Tryz.prog.cellsOf 46)) = ys[6]?:=hf 6 _ rfl
  match ys,hyl with
  | [y0,y1,y2,y3,y4,y5,y6],_ =>
  match cs,hl with
  | [a0,a1,a2,a3,a4,a5,a6,a7],_ =>
  simp only [c2,c3,c9,c22,c45,c46,List.drop_zero,List.drop_succ_cons,List.take_succ_cons,List.take_zero,List.getElem?_cons_zero,List.getElem?_cons_succ] at g0 g1 g2 g3 g4 g5 g6
  simp only [List.map_cons,List.map_nil,Rows.uptoBulk,Rows.uptoBulkAll]
  obtain ⟨k,e0,-⟩:=OpenFields.int_of Tryz.underlying3 g0
  obtain ⟨u,e1,-⟩:=OpenFields.int_of Tryz.underlying2 g1
  obtain ⟨v,e2,-⟩:=OpenFields.int_of Tryz.underlying2 g2
  obtain ⟨s,e3,-⟩:=OpenFields.string_of Tryz.underlying9 g3
  obtain ⟨xs,hxs,hxl,-⟩:=tbo g4
  obtain ⟨p4,q4,e4,-,hxr⟩:=id hxs
  obtain ⟨p4',q4',l4,e4',-,-,n4⟩:=t6a (α:=Int) (P:=fun _ _=>True) (μ:=fun _=>0) (B:=Rows.uptoBulk y4.1) Tryz.underlying22 c3 (by decide) (fun n es y _ h _=>⟨0,trivial,Nat.zero_le _⟩) g4 (by omega)
  obtain ⟨p5,q5,l5,e5,r5,-,n5⟩:=t6a (μ:=fun _=>0) (B:=Rows.uptoBulk y5.1) Tryz.underlying45 c75 (by decide) (fun n es y _ h _=>(tjo h).imp fun _ h=>⟨h,Nat.zero_le _⟩) g5 (by omega)
  obtain ⟨r0,r1,e6,e7⟩ : ∃ r0 r1 : Int,a6 = .int .i64 r0 ∧ a7 = .int .i64 r1:=by
    obtain ⟨zs,m2,-,-,-,hzl,hz⟩:=DataW.trod_array Tryz.underlying46 g6
    have h0 : DataW.trod enc Tryz.prog W 0 spare held m2 3 (([a6,a7].drop (0 * Tryz.prog.cellsOf 3)).take (Tryz.prog.cellsOf 3)) = zs[0]?:=hz 0 (by decide)
    have h1 : DataW.trod enc Tryz.prog W 0 spare held m2 3 (([a6,a7].drop (1 * Tryz.prog.cellsOf 3)).take (Tryz.prog.cellsOf 3)) = zs[1]?:=hz 1 (by decide)
    match zs,hzl with
    | [z0,z1],_ =>
    simp only [c3,Nat.zero_mul,Nat.one_mul,List.drop_zero,List.drop_succ_cons,List.take_succ_cons,List.take_zero,List.getElem?_cons_zero,List.getElem?_cons_succ] at h0 h1
    obtain ⟨r0,q0,-⟩:=OpenFields.int_of Tryz.underlying3 h0
    obtain ⟨r1,q1,-⟩:=OpenFields.int_of Tryz.underlying3 h1
    simp only [List.cons.injEq,and_true] at q0 q1
    exact ⟨r0,r1,q0,q1⟩
  have hle : xs.length = l4.length:=by
    rw [e4] at e4'
    simp only [List.cons.injEq,and_true,Value.slice.injEq] at e4'
    exact e4'.2.1
  simp only [List.cons.injEq,and_true] at e0 e1 e2 e3 e5
  subst e0 e1 e2 e3 e4 e5 e6 e7
  have hm : maxLen ≤ 9223372036854775807:=by decide
  refine ⟨⟨k,u,v,s,xs,l5,r0,r1⟩,⟨p4,q4,p5,q5,rfl,hxs,r5⟩,?_,?_,Nat.le_trans hxl hm⟩
  · show xs.length ≤ _;omega
  · show l5.length ≤ _;omega
theorem ty_of {fuel : Nat} {cs : List Value} {x : DataW H × List MemPlace} (h : DataW.trod enc Tryz.prog W 0 spare held fuel 31 cs = some x) : ∃ T : Ty,TS W (.agg cs.toArray) T ∧ ∀ n ∈ T.nodes,n.kids.length ≤ Rows.uptoBulk x.1 ∧ n.fields.length ≤ Rows.uptoBulk x.1:=by
  have c3 : Tryz.prog.cellsOf 3 = 1:=by kernel_rfl
  have c29 : Tryz.prog.cellsOf 29 = 1:=by kernel_rfl
  have c31 : Tryz.prog.cellsOf 31 = 2:=by kernel_rfl
  have c48 : Tryz.prog.cellsOf 48 = 8:=by kernel_rfl
  obtain ⟨ys,m,-,rfl,hl,hyl,hf⟩:=DataW.trod_struct Tryz.underlying31 h
  rw [c31] at hl
  have g0 : DataW.trod enc Tryz.prog W 0 spare held m 29 ((cs.drop 0).take (Tryz.prog.cellsOf 29)) = ys[0]?:=hf 0 _ rfl
  have g1 : DataW.trod enc Tryz.prog W 0 spare held m 3 ((cs.drop 1).take (Tryz.prog.cellsOf 3)) = ys[1]?:=hf 1 _ rfl
  match ys,hyl with
  | [y0,y1],_ =>
  match cs,hl with
  | [a0,a1],_ =>
  simp only [c3,c29,List.drop_zero,List.drop_succ_cons,List.take_succ_cons,List.take_zero,List.getElem?_cons_zero,List.getElem?_cons_succ] at g0 g1
  simp only [List.map_cons,List.map_nil,Rows.uptoBulk,Rows.uptoBulkAll]
  obtain ⟨r,e1,-⟩:=OpenFields.int_of Tryz.underlying3 g1
  obtain ⟨p,q,l,e0,hr,-,-⟩:=t6a (P:=fun X cs=>NC W X cs ∧ X.kids.length ≤ Rows.uptoBulk y0.1 ∧ X.fields.length ≤ Rows.uptoBulk y0.1 ∧ X.kids.length ≤ 9223372036854775807) (μ:=fun _=>0) (B:=Rows.uptoBulk y0.1) Tryz.underlying29 c48 (by decide) (fun n es y _ h hb=>by
    obtain ⟨X,h1,h2,h3,h4⟩:=tj0 h
    exact ⟨X,⟨h1,by omega,by omega,h4⟩,Nat.zero_le _⟩) g0 (by omega)
  simp only [List.cons.injEq,and_true] at e0 e1
  subst e0 e1
  have hP : ∀ n ∈ l,n.kids.length ≤ Rows.uptoBulk y0.1 ∧ n.fields.length ≤ Rows.uptoBulk y0.1 ∧ n.kids.length ≤ 9223372036854775807:=fun n hn=>by
    obtain ⟨i,hi,rfl⟩:=List.mem_iff_getElem.1 hn
    obtain ⟨_,cs,_,hc⟩:=hr
    exact (hc i hi).2
  refine ⟨⟨l,r⟩,⟨p,q,rfl,hr.mono fun _ _ _ h=>h.1,fun n hn=>(hP n hn).2.2⟩,fun n hn=>?_⟩
  have:=hP n hn
  exact ⟨by omega,by omega⟩
end
end Go.Proofs.YtjgldaaofdpcgaaGreat
namespace Go.Proofs.YtjgldaaofdpcgaaGreat
open Go.RowKit
set_option maxRecDepth 100000

def we (E : Nat → Bool) (w : World) : World:={ w with heap:=w.heap.mapIdx fun k o=>if E k then .cells #[] 0 else o }
theorem t0j (E : Nat → Bool) (w : World) : (we E w).heap.size = w.heap.size:=by simp [we]
theorem we_at {E : Nat → Bool} {k : Nat} {w : World} (h : E k = false) : (we E w).heap[k]? = w.heap[k]?:=by
  simp only [we,Array.getElem?_mapIdx,h]
  cases w.heap[k]? <;> rfl
theorem t3b {E : Nat → Bool} {k : Nat} {w : World} (h : E k = true) : (we E w).heap[k]? = if k < w.heap.size then some (.cells #[] 0) else none:=by
  simp only [we,Array.getElem?_mapIdx,h]
  by_cases g : k < w.heap.size
  · rw [if_pos g,Array.getElem?_eq_getElem g];rfl
  · rw [if_neg g,Array.getElem?_eq_none (by omega)];rfl
theorem t1j {E : Nat → Bool} {a o : Nat} {w : World} {v : Value} (h : (we E w).cell? ⟨a,o,none⟩ = some v) : E a = false ∧ w.cell? ⟨a,o,none⟩ = some v:=by
  cases e : E a with
  | true =>
    exfalso
    unfold World.cell? at h
    rw [t3b e] at h
    by_cases g : a < w.heap.size
    · simp [g] at h
    · simp [g] at h
  | false=>exact ⟨rfl,by rwa [t6m (we_at e)] at h⟩
def wo (b : Nat) (w : World) : World:=we (fun k=>k == b) w
theorem t1e (b : Nat) (w : World) : (wo b w).heap.size = w.heap.size:=t0j _ w
theorem wo_at {b k : Nat} {w : World} (h : k ≠ b) : (wo b w).heap[k]? = w.heap[k]?:=we_at (by simp [h])
theorem tj1 {b : Nat} {w : World} : (wo b w).heap[b]? = if b < w.heap.size then some (.cells #[] 0) else none:=t3b (by simp)
theorem t0l {b a o : Nat} {w : World} {v : Value} (h : (wo b w).cell? ⟨a,o,none⟩ = some v) : w.cell? ⟨a,o,none⟩ = some v:=(t1j h).2
structure Sub (w w' : World) : Prop where
  size : w.heap.size ≤ w'.heap.size
  cell : ∀ a o v,w.cell? ⟨a,o,none⟩ = some v → w'.cell? ⟨a,o,none⟩ = some v
theorem t3q (E : Nat → Bool) (w : World) : Sub (we E w) w:=⟨Nat.le_of_eq (t0j E w),fun _ _ _ h=>(t1j h).2⟩
theorem t2r {E F : Nat → Bool} (w : World) (h : ∀ k,F k = true → E k = true) : Sub (we E w) (we F w):=by
  refine ⟨by rw [t0j,t0j];exact Nat.le_refl _,fun a o v hv=>?_⟩
  obtain ⟨h1,h2⟩:=t1j hv
  have h3 : F a = false:=by
    cases e : F a with
    | false=>rfl
    | true=>rw [h a e] at h1;cases h1
  rwa [t6m (we_at h3)]
theorem tgv (b : Nat) (w : World) : Sub (wo b w) w:=t3q _ w
theorem RC.sub {w w' : World} (hs : Sub w w') {size n : Nat} {A : Option Addr} {cs : List Value} (h : RC w size A n cs) : RC w' size A n cs :=
  ⟨h.1,fun hn=>by
    obtain ⟨a,o,h1,h2,h3⟩:=h.2 hn
    exact ⟨a,o,h1,Nat.lt_of_lt_of_le h2 hs.size,fun j u hu=>hs.cell _ _ _ (h3 j u hu)⟩⟩
theorem IS.sub {w w' : World} (hs : Sub w w') {v : Value} {xs : List Int} (h : IS w v xs) : IS w' v xs:=by
  obtain ⟨p,c,e,h1,h2⟩:=h;exact ⟨p,c,e,h1,h2.sub hs⟩
theorem Rw.sub {w w' : World} (hs : Sub w w') {α : Type} {p : Option Addr} {c sz : Nat} {l : List α} {P P' : α → List Value → Prop} (h : Rw w p c sz l P) (hP : ∀ x cs,x ∈ l → P x cs → P' x cs) : Rw w' p c sz l P':=by
  obtain ⟨h1,cs,h2,h3⟩:=h
  exact ⟨h1,cs,h2.sub hs,fun i hi=>hP _ _ (List.getElem_mem hi) (h3 i hi)⟩
theorem VS.sub {w w' : World} (hs : Sub w w') : ∀ {d : Nat} {V : VV} {cs : List Value},VS w d V cs → VS w' d V cs:=by
  intro d
  induction d with
  | zero=>intro V cs h;exact h
  | succ d ih =>
    intro V cs h
    obtain ⟨p1,c1,p2,c2,p3,c3,p4,c4,e,h1,h2,h3,h4⟩:=h
    refine ⟨p1,c1,p2,c2,p3,c3,p4,c4,e,h1.sub hs fun _ _ _ h=>ih h,h2.sub hs fun _ _ _ h=>h,h3.sub hs fun e cs _ h=>?_,h4.sub hs fun _ _ _ h=>h⟩
    obtain ⟨pa,ca,rs,e1,e2,e3⟩:=h
    exact ⟨pa,ca,rs,e1,e2.sub hs fun _ _ _ h=>ih h,ih e3⟩
theorem ES.sub {w w' : World} (hs : Sub w w') {d : Nat} {e : EE} {cs : List Value} (h : ES w d e cs) : ES w' d e cs:=by
  obtain ⟨pa,ca,rs,e1,e2,e3⟩:=h
  exact ⟨pa,ca,rs,e1,e2.sub hs fun _ _ _ h=>h.sub hs,e3.sub hs⟩
theorem ES.up {w : World} {d f : Nat} {e : EE} {cs : List Value} (h : ES w d e cs) (hd : d ≤ f) : ES w f e cs:=by
  obtain ⟨pa,ca,rs,e1,e2,e3⟩:=h
  exact ⟨pa,ca,rs,e1,e2.mono fun _ _ _ h=>h.up hd,e3.up hd⟩
theorem VW.sub {w w' : World} (hs : Sub w w') {v : Value} {V : VV} (h : VW w v V) : VW w' v V:=by
  obtain ⟨d,cs,e,h⟩:=h;exact ⟨d,cs,e,h.sub hs⟩
theorem NC.sub {w w' : World} (hs : Sub w w') {n : TN} {cs : List Value} (h : NC w n cs) : NC w' n cs:=by
  obtain ⟨p1,c1,p2,c2,e,h1,h2⟩:=h
  exact ⟨p1,c1,p2,c2,e,h1.sub hs,h2.sub hs fun _ _ _ h=>h⟩
theorem TS.sub {w w' : World} (hs : Sub w w') {v : Value} {T : Ty} (h : TS w v T) : TS w' v T:=by
  obtain ⟨p,c,e,h,h2⟩:=h
  exact ⟨p,c,e,h.sub hs fun _ _ _ h=>h.sub hs,h2⟩
theorem KS.sub {w w' : World} (hs : Sub w w') {v : Value} {l : List VV} (h : KS w v l) : KS w' v l:=by
  obtain ⟨d,p,c,e,h⟩:=h
  exact ⟨d,p,c,e,h.sub hs fun _ _ _ h=>h.sub hs⟩
theorem EY.sub {w w' : World} (hs : Sub w w') {v : Value} {l : List EE} (h : EY w v l) : EY w' v l:=by
  obtain ⟨d,p,c,e,h⟩:=h
  exact ⟨d,p,c,e,h.sub hs fun _ _ _ h=>h.sub hs⟩
theorem SS.sub {w w' : World} (hs : Sub w w') {v : Value} {l : List ByteArray} (h : SS w v l) : SS w' v l:=by
  obtain ⟨p,c,e,h⟩:=h;exact ⟨p,c,e,h.sub hs fun _ _ _ h=>h⟩
theorem KY.sub {w w' : World} (hs : Sub w w') {v : Value} {l : List KK} (h : KY w v l) : KY w' v l:=by
  obtain ⟨p,c,e,h⟩:=h;exact ⟨p,c,e,h.sub hs fun _ _ _ h=>h⟩
theorem t1l {B : Nat} {E : Nat → Bool} {w w' : World} (h : Below B w w') : Below B (we E w) (we E w'):=by
  refine ⟨h.os,h.tape,h.output,by rw [t0j,t0j];exact h.size,fun k hk=>?_⟩
  cases e : E k with
  | true =>
    rw [t3b e,t3b e]
    have h1:=h.block k hk
    by_cases g : k < w.heap.size
    · rw [if_pos g,if_pos (Nat.lt_of_lt_of_le g h.size)]
    · rw [if_neg g,if_neg]
      intro g2
      have e1 : w.heap[k]? = none:=Array.getElem?_eq_none (by omega)
      rw [e1] at h1
      have:=Array.getElem?_eq_none_iff.1 h1
      omega
  | false=>rw [we_at e,we_at e];exact h.block k hk
theorem t1n {B b : Nat} {E : Nat → Bool} {o : Obj} {w w' : World} (h : Upd b o w w') (hE : E b = true) : Below B (we E w) (we E w'):=by
  refine ⟨h.os,h.tape,h.output,by rw [t0j,t0j,h.size];exact Nat.le_refl _,fun k _=>?_⟩
  cases e : E k with
  | true=>rw [t3b e,t3b e,h.size]
  | false =>
    rw [we_at e,we_at e]
    exact h.other k fun g=>by rw [g,hE] at e;cases e
theorem t2n {B b : Nat} {w w' : World} (h : Below B w w') : Below B (wo b w) (wo b w'):=t1l h
theorem t3d {B b : Nat} {o : Obj} {w w' : World} (h : Upd b o w w') : Below B (wo b w) (wo b w'):=t1n h (by simp)
theorem wo_un {B B' b : Nat} {w w' : World} (h : Below B (wo b w) (wo b w')) (hb : B' ≤ b) (hB : B' ≤ B) : Below B' w w':=by
  refine ⟨h.os,h.tape,h.output,by have:=h.size;rwa [t1e,t1e] at this,fun k hk=>?_⟩
  have:=h.block k (by omega)
  rwa [wo_at (by omega),wo_at (by omega)] at this
theorem we_in {B : Nat} {E : Nat → Bool} {w : World} (hE : ∀ k,k < B → E k = false) : Below B w (we E w):=⟨rfl,rfl,rfl,by rw [t0j];exact Nat.le_refl _,fun k hk=>we_at (hE k hk)⟩
theorem wo_in {B b : Nat} {w : World} (hb : B ≤ b) : Below B w (wo b w):=we_in fun k hk=>by simp;omega
def Old (E : Nat → Bool) (n : Nat) : Prop:=∀ k,n ≤ k → E k = false
theorem Old.mono {E : Nat → Bool} {m n : Nat} (h : Old E m) (hm : m ≤ n) : Old E n:=fun k hk=>h k (by omega)
theorem t1q {E : Nat → Bool} {B n : Nat} {e : TypeId} {size : Nat} {v : Value} {xs : List Value} {w : World} (h : w.ownsRow B e size v n xs) (hE : Old E B) : (we E w).ownsRow B e size v n xs :=
  t3l h fun g hg=>we_at (hE g (h.lt g hg).1)
def ex (E : Nat → Bool) (x : Nat) : Nat → Bool:=fun k=>E k || k == x
theorem t9s (E : Nat → Bool) (x : Nat) (w : World) : Sub (we (ex E x) w) (we E w):=t2r w fun k h=>by simp [ex,h]
theorem t3e {E : Nat → Bool} {x n : Nat} (h : Old E n) (hx : x < n) : Old (ex E x) n:=fun k hk=>by simp [ex,h k hk];omega
theorem ex_in {E : Nat → Bool} {x B : Nat} {w : World} (hx : B ≤ x) : Below B (we E w) (we (ex E x) w):=by
  refine ⟨rfl,rfl,rfl,by rw [t0j,t0j];exact Nat.le_refl _,fun k hk=>?_⟩
  cases e : E k with
  | true=>rw [t3b e,t3b (by simp [ex,e])]
  | false=>rw [we_at e,we_at (by simp [ex,e];omega)]
theorem t4e {E : Nat → Bool} {x B : Nat} {w : World} (hE : E x = true) (cs : Array Value) : Below B (we E w) (we E (w.setRow x cs)):=by
  have hs : (w.setRow x cs).heap.size = w.heap.size:=size_setRow _ _ _
  refine ⟨rfl,rfl,rfl,by rw [t0j,t0j,hs];exact Nat.le_refl _,fun k _=>?_⟩
  cases e : E k with
  | true=>rw [t3b e,t3b e,hs]
  | false =>
    rw [we_at e,we_at e]
    exact setRow_other _ _ _ _ fun g=>by rw [g,hE] at e;cases e
def lo (B : Nat) : Nat → Bool:=fun k=>decide (k < B)
theorem t1g (B : Nat) : Old (lo B) B:=fun k hk=>by simp [lo];omega
theorem t1m {A B : Nat} (w : World) (h : A ≤ B) : Sub (we (lo B) w) (we (lo A) w):=t2r w fun k hk=>by simp [lo] at hk ⊢;omega
theorem t4f {B : Nat} {E : Nat → Bool} (w : World) (h : Old E B) : Sub (we (lo B) w) (we E w):=t2r w fun k hk=>by
  simp only [lo,decide_eq_true_eq]
  by_cases g : k < B
  · exact g
  · rw [h k (by omega)] at hk;cases hk
theorem t0b {w w' : World} (hb : Below w.heap.size w w') {a o : Nat} {v : Value} (h : w.cell? ⟨a,o,none⟩ = some v) : w'.cell? ⟨a,o,none⟩ = some v:=by
  by_cases e : a < w.heap.size
  · exact (hb.cell (p:=⟨a,_,none⟩) e).trans h
  · exfalso
    unfold World.cell? at h
    have e1 : w.heap[a]? = none:=Array.getElem?_eq_none (by omega)
    simp [e1] at h
structure SD where
  b : Nat
  p : Option Addr
  c : Nat
  L : List Int
structure SRC (S : SD) (w : World) : Prop where
  blk : ∃ i : Nat,i ≤ S.L.length ∧ w.heap[S.b]? = some (.cells #[.slice S.p S.L.length S.c,.int .i64 (i : Int)] 39)
  row : IS (wo S.b w) (.slice S.p S.L.length S.c) S.L
  len : S.L.length ≤ 1000
structure SR (S : SD) (w w' : World) : Prop where
  fr : Below w.heap.size (wo S.b w) (wo S.b w')
  src0 : SRC S w
  src : SRC S w'
theorem SRC.lt {S : SD} {w : World} (h : SRC S w) : S.b < w.heap.size:=by obtain ⟨_,_,h⟩:=h.blk;exact t0a h
theorem SRC.below {S : SD} {w w' : World} (h : SRC S w) (hb : Below w.heap.size w w') : SRC S w':=by
  obtain ⟨i,h1,h2⟩:=h.blk
  exact ⟨⟨i,h1,(hb.block _ (t0a h2)).trans h2⟩,h.row.below (by rw [t1e];exact t2n hb),h.len⟩
theorem SR.refl {S : SD} {w : World} (h : SRC S w) : SR S w w:=⟨Below.refl _ _,h,h⟩
theorem SR.size {S : SD} {w w' : World} (h : SR S w w') : w.heap.size ≤ w'.heap.size:=by have:=h.fr.size;rwa [t1e,t1e] at this
theorem SR.trans {S : SD} {w w1 w2 : World} (h : SR S w w1) (k : SR S w1 w2) : SR S w w2:=⟨h.fr.trans (k.fr.mono h.size),h.src0,k.src⟩
theorem SR.step {S : SD} {w w1 w2 : World} (h : SR S w w1) (k : Below w1.heap.size w1 w2) : SR S w w2:=⟨h.fr.trans ((t2n k).mono h.size),h.src0,h.src.below k⟩
theorem SR.own {S : SD} {w w1 w2 : World} (h : SR S w w1) (k : Below w.heap.size w1 w2) (hb : w2.heap[S.b]? = w1.heap[S.b]?) : SR S w w2:=by
  have hf:=h.fr.trans (t2n (b:=S.b) k)
  obtain ⟨i,h1,h2⟩:=h.src.blk
  exact ⟨hf,h.src0,⟨i,h1,hb.trans h2⟩,h.src0.row.below (by rw [t1e];exact hf),h.src0.len⟩
theorem SR.bel {S : SD} {w w' : World} (h : SR S w w') : Below (wo S.b w).heap.size (wo S.b w) (wo S.b w'):=by rw [t1e];exact h.fr
theorem SR.block {S : SD} {w w' : World} {k : Nat} (h : SR S w w') (hk : k < w.heap.size) (hb : k ≠ S.b) : w'.heap[k]? = w.heap[k]?:=by
  have:=h.fr.block k hk
  rwa [wo_at hb,wo_at hb] at this
theorem SR.old {S : SD} {w w' : World} {B : Nat} (h : SR S w w') (hb : B ≤ S.b) : Below B w w':=wo_un h.fr hb (by have:=h.src0.lt;omega)
theorem SR.we {S : SD} {w w' : World} {E : Nat → Bool} (h : SR S w w') (hE : E S.b = true) : Below w.heap.size (we E w) (we E w'):=by
  refine ⟨h.fr.os,h.fr.tape,h.fr.output,by rw [t0j,t0j];exact h.size,fun k hk=>?_⟩
  cases e : E k with
  | true=>rw [t3b e,t3b e,if_pos hk,if_pos (Nat.lt_of_lt_of_le hk h.size)]
  | false =>
    rw [we_at e,we_at e]
    exact h.block hk fun g=>by rw [g,hE] at e;cases e
theorem SR.alloc {S : SD} {w : World} (h : SRC S w) (o : Obj) : SR S w (w.alloc o):=(SR.refl h).step ((Below.refl _ _).alloc (Nat.le_refl _) _)
theorem SR.drew {S : SD} {w w' : World} (h : SR S w w') : SR S w w'.drew:=⟨⟨h.fr.os,h.fr.tape,h.fr.output,h.fr.size,h.fr.block⟩,h.src0,h.src.blk,h.src.row,h.src.len⟩
end Go.Proofs.YtjgldaaofdpcgaaGreat
namespace Go.Proofs.YtjgldaaofdpcgaaGreat
open Go.RowKit
set_option maxRecDepth 100000
structure MI (w : World) (b n : Nat) (f : Nat → Int) : Prop where
  ex : ∃ tc : Array Value,w.heap[b]? = some (.cells tc 3) ∧ ∀ m,m < n → tc[m]? = some (.int .i64 (f m))
theorem MI.cell {w : World} {b n : Nat} {f : Nat → Int} (h : MI w b n f) {m : Nat} (hm : m < n) : w.cell? ⟨b,m,none⟩ = some (.int .i64 (f m)):=by
  obtain ⟨tc,h1,h2⟩:=h.ex
  simp [World.cell?,h1,h2 m hm]
theorem MI.at {w w' : World} {b n : Nat} {f : Nat → Int} (h : MI w b n f) (e : w'.heap[b]? = w.heap[b]?) : MI w' b n f:=by
  obtain ⟨tc,h1,h2⟩:=h.ex
  exact ⟨tc,e.trans h1,h2⟩
theorem MI.lt {w : World} {b n : Nat} {f : Nat → Int} (h : MI w b n f) : b < w.heap.size:=by
  obtain ⟨tc,h1,h2⟩:=h.ex
  exact t0a h1
theorem MI.below {w w' : World} {b n : Nat} {f : Nat → Int} (h : MI w b n f) (hb : Below w.heap.size w w') : MI w' b n f:=h.at (hb.block _ h.lt)
theorem MI.free {w : World} {b n : Nat} {f : Nat → Int} (h : MI w b n f) (i : Nat) : w.frozen? ⟨b,i,none⟩ = false:=by
  obtain ⟨tc,h1,h2⟩:=h.ex
  simp [World.frozen?,h1]
theorem MI.set {w : World} {b n : Nat} {f : Nat → Int} (h : MI w b n f) {k : Nat} (hk : k < n) (x : Int) : MI (w.setCell ⟨b,k,none⟩ (.int .i64 x)) b n (fun m=>if m = k then x else f m) ∧ ∃ o,Upd b o w (w.setCell ⟨b,k,none⟩ (.int .i64 x)):=by
  obtain ⟨tc,h1,h2⟩:=h.ex
  have hU:=Upd.set (i:=k) (v:=.int .i64 x) (Upd.refl h1)
  refine ⟨⟨_,hU.blk,fun m hm=>?_⟩,_,hU⟩
  have hl : k < tc.size:=by
    have:=h2 k hk
    exact (Array.getElem?_eq_some_iff.1 this).1
  rw [Array.getElem?_setIfInBounds]
  by_cases e : k = m
  · subst e;simp [hl]
  · rw [if_neg e,if_neg (fun e2=>e e2.symm)];exact h2 m hm
theorem MI.made (w : World) (n : Nat) : MI (w.alloc (.cells (madeCells #[.int .i64 0] n) 3)) w.heap.size n fun _=>0:=by
  refine ⟨_,heap_alloc_new w _,fun m hm=>?_⟩
  simp [madeCells,hm,Nat.mod_one]
structure MB (w : World) (b n : Nat) (f : Nat → Bool) : Prop where
  ex : ∃ tc : Array Value,w.heap[b]? = some (.cells tc 4) ∧ ∀ m,m < n → tc[m]? = some (.bool (f m))
theorem MB.cell {w : World} {b n : Nat} {f : Nat → Bool} (h : MB w b n f) {m : Nat} (hm : m < n) : w.cell? ⟨b,m,none⟩ = some (.bool (f m)):=by
  obtain ⟨tc,h1,h2⟩:=h.ex
  simp [World.cell?,h1,h2 m hm]
theorem MB.at {w w' : World} {b n : Nat} {f : Nat → Bool} (h : MB w b n f) (e : w'.heap[b]? = w.heap[b]?) : MB w' b n f:=by
  obtain ⟨tc,h1,h2⟩:=h.ex
  exact ⟨tc,e.trans h1,h2⟩
theorem MB.lt {w : World} {b n : Nat} {f : Nat → Bool} (h : MB w b n f) : b < w.heap.size:=by
  obtain ⟨tc,h1,h2⟩:=h.ex
  exact t0a h1
theorem MB.below {w w' : World} {b n : Nat} {f : Nat → Bool} (h : MB w b n f) (hb : Below w.heap.size w w') : MB w' b n f:=h.at (hb.block _ h.lt)
theorem MB.free {w : World} {b n : Nat} {f : Nat → Bool} (h : MB w b n f) (i : Nat) : w.frozen? ⟨b,i,none⟩ = false:=by
  obtain ⟨tc,h1,h2⟩:=h.ex
  simp [World.frozen?,h1]
theorem MB.set {w : World} {b n : Nat} {f : Nat → Bool} (h : MB w b n f) {k : Nat} (hk : k < n) (x : Bool) : MB (w.setCell ⟨b,k,none⟩ (.bool x)) b n (fun m=>if m = k then x else f m) ∧ ∃ o,Upd b o w (w.setCell ⟨b,k,none⟩ (.bool x)):=by
  obtain ⟨tc,h1,h2⟩:=h.ex
  have hU:=Upd.set (i:=k) (v:=.bool x) (Upd.refl h1)
  refine ⟨⟨_,hU.blk,fun m hm=>?_⟩,_,hU⟩
  have hl : k < tc.size:=by
    have:=h2 k hk
    exact (Array.getElem?_eq_some_iff.1 this).1
  rw [Array.getElem?_setIfInBounds]
  by_cases e : k = m
  · subst e;simp [hl]
  · rw [if_neg e,if_neg (fun e2=>e e2.symm)];exact h2 m hm
theorem MB.made (w : World) (n : Nat) : MB (w.alloc (.cells (madeCells #[.bool false] n) 4)) w.heap.size n fun _=>false:=by
  refine ⟨_,heap_alloc_new w _,fun m hm=>?_⟩
  simp [madeCells,hm,Nat.mod_one]
theorem tgw : (Tryz.prog.info? 4).map (fun i=>(i.zero,i.size,i.bytes)) = some (some (.bool false),1,1):=by kernel_rfl
end Go.Proofs.YtjgldaaofdpcgaaGreat
