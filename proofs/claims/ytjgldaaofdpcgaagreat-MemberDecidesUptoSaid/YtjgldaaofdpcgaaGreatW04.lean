/- Walks and plain facts for the laws of membership, for all values and types that the heap holds (texts Open Pl Idl Frl Na Nb). -/
import Derived.Deep.Slices
import Derived.Deep.Fields
import Derived.ChangeSame
import Derived.ChangeShapes
import Derived.ProofKit
import Derived.OpenShut
import Derived.Test.YtjgldaaofdpcgaaGreatChecked
import Derived.Lib.Hide
import Derived.Test.YtjgldaaofdpcgaaGreatW03
set_option linter.unusedVariables false
set_option linter.unusedSimpArgs false
namespace Go.OpenFields
open Go Go.ChangeShapes Go.WideShapes Go.Deep
section
variable {H : Type} {enc : TypeId × Value → H} {P : Program} {w : World} {base : Nat} {spare : Nat → Bool} {held : Bool}
theorem rows_of {t e : TypeId} {fuel : Nat} {cs : List Value} {x : DataW H × List MemPlace} (ht : P.underlying t = some (.slice e)) (h : DataW.trod enc P w base spare held fuel t cs = some x) :
    cs = [.slice none 0 0] ∨ ∃ (a : Addr) (len cap : Nat),cs = [.slice (some a) len cap] ∧ len ≤ cap ∧ cap ≤ maxLen ∧
      ∀ i,i < len → ∃ (es : List Value) (n : Nat) (y : DataW H × List MemPlace),es.length = P.cellsOf e ∧ (∀ j,j < P.cellsOf e → w.cell? (a.add (i * P.cellsOf e + j)) = es[j]?) ∧ DataW.trod enc P w base spare held n e es = some y:=by
  rcases open_slice ht h with ⟨h0,_⟩ | ⟨a,len,cap,m,n,D,Pl,hcs,_,hl,hm,hmm,_,hi⟩
  · exact .inl h0
  refine .inr ⟨a,len,cap,hcs,hl,hm,fun i hil=>?_⟩
  have him : i < m:=by rw [hmm];split <;> omega
  obtain ⟨es,hes,hr⟩:=hi i him
  obtain ⟨_,hlen,hat⟩:=World.cells?_some hes
  refine ⟨es,n,_,hlen,fun j hj=>?_,hr⟩
  rw [← add_add]
  exact hat j hj
theorem field_of {e : TypeId} {fs : Array Field} {n : Nat} {es : List Value} {y : DataW H × List MemPlace} (he : P.underlying e = some (.struct fs)) (h : DataW.trod enc P w base spare held n e es = some y)
    (j T o c : Nat) (hj : (fs[j]?).map (fun f=>(f.type,f.offset)) = some (T,o)) (hc : P.cellsOf T = c) : ∃ (k : Nat) (z : DataW H × List MemPlace),DataW.trod enc P w base spare held k T ((es.drop o).take c) = some z:=by
  obtain ⟨ys,k,_,_,_,hyl,hf⟩:=DataW.trod_struct he h
  cases hx : fs[j]? with
  | none=>simp [hx] at hj
  | some f =>
    simp [hx] at hj
    obtain ⟨rfl,rfl⟩:=hj
    have hlt : j < ys.length:=by rw [hyl];exact (Array.getElem?_eq_some_iff.1 hx).1
    exact ⟨k,ys[j],hc ▸ (hf j f hx).trans (List.getElem?_eq_getElem hlt)⟩
theorem int_of {t : TypeId} {k : IntKind} {n : Nat} {cs : List Value} {y : DataW H × List MemPlace} (ht : P.underlying t = some (.int k)) (h : DataW.trod enc P w base spare held n t cs = some y) :
    ∃ q : Int,cs = [.int k q] ∧ (Lit.int k q).wf = true:=by
  obtain ⟨q,h1,_,h2⟩:=DataW.trod_int ht h
  exact ⟨q,h1,h2⟩
theorem string_of {t : TypeId} {n : Nat} {cs : List Value} {y : DataW H × List MemPlace} (ht : P.underlying t = some .string) (h : DataW.trod enc P w base spare held n t cs = some y) :
    ∃ s : ByteArray,cs = [.string s] ∧ s.size ≤ maxLen:=by
  obtain ⟨s,h1,_,h2⟩:=DataW.trod_string ht h
  exact ⟨s,h1,h2⟩
end
theorem add_none (b o i : Nat) : (⟨b,o,none⟩ : Addr).add i = ⟨b,o + i,none⟩:=by
  unfold Addr.add
  split
  · rename_i h;subst h;rfl
  · rfl
theorem lt_of_cell {w : World} {b o : Nat} {v : Value} (h : w.cell? ⟨b,o,none⟩ = some v) : b < w.heap.size:=by
  rcases Nat.lt_or_ge b w.heap.size with h' | h'
  · exact h'
  · simp [World.cell?,Array.getElem?_eq_none h'] at h
end Go.OpenFields
namespace Go.Proofs.YtjgldaaofdpcgaaGreat
open Go.ChangeShapes Go.WideShapes Go.ChangeAt Go.RowKit

theorem ta4 {α : Type} {P : Nat → α → Prop} : ∀ n,(∀ i,i < n → ∃ x,P i x) → ∃ l : List α,l.length = n ∧ ∀ i (h : i < l.length),P i l[i]:=by
  intro n
  induction n with
  | zero=>intro _;exact ⟨[],rfl,fun i h=>absurd h (by simp)⟩
  | succ n ih =>
    intro h
    obtain ⟨l,hl,hP⟩:=ih fun i hi=>h i (by omega)
    obtain ⟨x,hx⟩:=h n (by omega)
    refine ⟨l ++ [x],by simp [hl],fun i hi=>?_⟩
    by_cases hin : i < l.length
    · rw [List.getElem_append_left hin];exact hP i hin
    · have hi2 : i = n:=by simp at hi;omega
      subst hi2
      rw [List.getElem_append_right (by omega)]
      simpa [hl] using hx
theorem tbo {H : Type} {enc : TypeId × Value → H} {W : World} {spare : Nat → Bool} {held : Bool} {v : Value} {x : DataW H × List MemPlace} {fuel : Nat} (hf : DataW.trod enc Tryz.prog W 0 spare held fuel 22 [v] = some x) :
    ∃ xs : List Int,IS W v xs ∧ xs.length ≤ maxLen ∧ ∀ x ∈ xs,(Lit.int .i64 x).wf = true:=by
  have hC : Tryz.prog.cellsOf 3 = 1:=by kernel_rfl
  rcases OpenFields.rows_of Tryz.underlying22 hf with hcs | ⟨a,l,c,hcs,hl,hm,hi⟩
  · simp only [List.cons.injEq,and_true] at hcs
    subst hcs
    exact ⟨[],IS.nil W,by simp,by simp⟩
  simp only [List.cons.injEq,and_true] at hcs
  subst hcs
  by_cases hz : l = 0
  · subst hz;exact ⟨[],⟨some a,c,rfl,by simp,RC.nil _ _ _⟩,by simp,by simp⟩
  rw [hC] at hi
  obtain ⟨ab,off,spot⟩:=a
  have hsp : spot = none:=by
    obtain ⟨es,n,y,h1,h2,h3⟩:=hi 0 (by omega)
    have h4:=h2 0 (by omega)
    cases es with
    | nil=>simp at h1
    | cons x r=>simpa [Addr.add] using World.cell?_spot h4
  subst hsp
  obtain ⟨ls,hls,hP⟩:=ta4 (P:=fun i (x : Int)=>W.cell? ⟨ab,off + i,none⟩ = some (.int .i64 x) ∧ (Lit.int .i64 x).wf = true) l (fun i hil=>by
    obtain ⟨es,n,y,h1,h2,h3⟩:=hi i hil
    obtain ⟨x0,g0,gw⟩:=OpenFields.int_of Tryz.underlying3 h3
    have h5:=h2 0 (by omega)
    rw [OpenFields.add_none,Nat.mul_one,Nat.add_zero,g0] at h5
    exact ⟨x0,h5,gw⟩)
  refine ⟨ls,⟨some ⟨ab,off,none⟩,c,by rw [hls],by omega,by rw [t9a,Nat.mul_one],fun h0=>⟨ab,off,rfl,OpenFields.lt_of_cell (hP 0 h0).1,fun j u hu=>?_⟩⟩,by omega,fun x hx=>?_⟩
  · have hj : j < ls.length:=by have:=(List.getElem?_eq_some_iff.1 hu).1;rwa [t9a] at this
    have : u = .int .i64 ls[j]:=by
      simp only [ic,List.getElem?_map,List.getElem?_eq_getElem hj,Option.map_some,Option.some.injEq] at hu
      exact hu.symm
    rw [this];exact (hP j hj).1
  · obtain ⟨j,hj,rfl⟩:=List.mem_iff_getElem.1 hx
    exact (hP j hj).2
end Go.Proofs.YtjgldaaofdpcgaaGreat
namespace Go.Ident
def isLo (c : UInt8) : Bool:=decide (97 ≤ c) && decide (c ≤ 122)
def isUp (c : UInt8) : Bool:=decide (65 ≤ c) && decide (c ≤ 90)
def isDi (c : UInt8) : Bool:=decide (48 ≤ c) && decide (c ≤ 57)
def t2i (c : UInt8) : Bool:=isLo c || isDi c || decide (c = 95)
def t2f (c : UInt8) : Bool:=isLo c || isUp c || isDi c || decide (c = 95)
def isNm (f g : UInt8 → Bool) : List UInt8 → Bool
  | []=>false
  | c :: r=>decide (r.length ≤ 15) && (f c && r.all g)
def isAtm (l : List UInt8) : Bool:=isNm isLo t2i l
def isVrb (l : List UInt8) : Bool:=isNm isUp t2f l
def valK (k : Int) (l : List UInt8) : Bool:=if k = 0 then isAtm l else if k = 1 then decide (l.length ≤ 64) else false
def hexD (n : UInt8) : UInt8:=if n < 10 then 48 + n else 87 + n
def q1 (c : UInt8) : List UInt8 :=
  if c = 34 ∨ c = 92 then [92,c] else if 32 ≤ c ∧ c ≤ 126 then [c] else [92,120,hexD (c >>> 4),hexD (c &&& 15)]
end Go.Ident
namespace Go.Ident
def lowC (kind i : Nat) : UInt8:=if kind = 1 then 0 else if i = 0 then 97 else 48
def low (kind n : Nat) : List UInt8:=(List.range n).map (lowC kind)
end Go.Ident
namespace Go.Proofs.YtjgldaaofdpcgaaGreat
open Go.RowKit Go.Ident

set_option maxRecDepth 100000 in
theorem t5y (c : UInt8) (w : World) : Calls Tryz.prog 110 #[.int .u8 c.toNat] w fun e w'=>e = .returned (.bool (isLo c)) ∧ w' = w:=by
  unfold isLo
  simp only [UInt8.le_iff_toNat_le]
  by_cases h1 : 97 ≤ c.toNat
  · by_cases h2 : c.toNat ≤ 122
    · have d1 : decide ((c.toNat : Int) ≥ 97) = true:=by simp;omega
      have d2 : decide ((c.toNat : Int) ≤ 122) = true:=by simp;omega
      go_enter Tryz.func110,Tryz.ntmps110
      go_wp2
      go_ret
      simp [h1,h2]
    · have d1 : decide ((c.toNat : Int) ≥ 97) = true:=by simp;omega
      have d2 : decide ((c.toNat : Int) ≤ 122) = false:=by simp;omega
      go_enter Tryz.func110,Tryz.ntmps110
      go_wp2
      go_ret
      simp [h1,h2]
  · have d1 : decide ((c.toNat : Int) ≥ 97) = false:=by simp;omega
    go_enter Tryz.func110,Tryz.ntmps110
    go_wp2
    go_ret
    simp [h1]
set_option maxRecDepth 100000 in
theorem t9b (c : UInt8) (w : World) : Calls Tryz.prog 113 #[.int .u8 c.toNat] w fun e w'=>e = .returned (.bool (isUp c)) ∧ w' = w:=by
  unfold isUp
  simp only [UInt8.le_iff_toNat_le]
  by_cases h1 : 65 ≤ c.toNat
  · by_cases h2 : c.toNat ≤ 90
    · have d1 : decide ((c.toNat : Int) ≥ 65) = true:=by simp;omega
      have d2 : decide ((c.toNat : Int) ≤ 90) = true:=by simp;omega
      go_enter Tryz.func113,Tryz.ntmps113
      go_wp2
      go_ret
      simp [h1,h2]
    · have d1 : decide ((c.toNat : Int) ≥ 65) = true:=by simp;omega
      have d2 : decide ((c.toNat : Int) ≤ 90) = false:=by simp;omega
      go_enter Tryz.func113,Tryz.ntmps113
      go_wp2
      go_ret
      simp [h1,h2]
  · have d1 : decide ((c.toNat : Int) ≥ 65) = false:=by simp;omega
    go_enter Tryz.func113,Tryz.ntmps113
    go_wp2
    go_ret
    simp [h1]
set_option maxRecDepth 100000 in
theorem t6y (c : UInt8) (w : World) : Calls Tryz.prog 112 #[.int .u8 c.toNat] w fun e w'=>e = .returned (.bool (isDi c)) ∧ w' = w:=by
  unfold isDi
  simp only [UInt8.le_iff_toNat_le]
  by_cases h1 : 48 ≤ c.toNat
  · by_cases h2 : c.toNat ≤ 57
    · have d1 : decide ((c.toNat : Int) ≥ 48) = true:=by simp;omega
      have d2 : decide ((c.toNat : Int) ≤ 57) = true:=by simp;omega
      go_enter Tryz.func112,Tryz.ntmps112
      go_wp2
      go_ret
      simp [h1,h2]
    · have d1 : decide ((c.toNat : Int) ≥ 48) = true:=by simp;omega
      have d2 : decide ((c.toNat : Int) ≤ 57) = false:=by simp;omega
      go_enter Tryz.func112,Tryz.ntmps112
      go_wp2
      go_ret
      simp [h1,h2]
  · have d1 : decide ((c.toNat : Int) ≥ 48) = false:=by simp;omega
    go_enter Tryz.func112,Tryz.ntmps112
    go_wp2
    go_ret
    simp [h1]
set_option maxRecDepth 100000 in
theorem t8e (c : UInt8) (w : World) : Calls Tryz.prog 119 #[.int .u8 c.toNat] w fun e w'=>e = .returned (.bool (isLo c)) ∧ w' = w:=by
  unfold isLo
  simp only [UInt8.le_iff_toNat_le]
  by_cases h1 : 97 ≤ c.toNat
  · by_cases h2 : c.toNat ≤ 122
    · have d1 : decide ((c.toNat : Int) ≥ 97) = true:=by simp;omega
      have d2 : decide ((c.toNat : Int) ≤ 122) = true:=by simp;omega
      go_enter Tryz.func119,Tryz.ntmps119
      go_wp2
      go_ret
      simp [h1,h2]
    · have d1 : decide ((c.toNat : Int) ≥ 97) = true:=by simp;omega
      have d2 : decide ((c.toNat : Int) ≤ 122) = false:=by simp;omega
      go_enter Tryz.func119,Tryz.ntmps119
      go_wp2
      go_ret
      simp [h1,h2]
  · have d1 : decide ((c.toNat : Int) ≥ 97) = false:=by simp;omega
    go_enter Tryz.func119,Tryz.ntmps119
    go_wp2
    go_ret
    simp [h1]
set_option maxRecDepth 100000 in
theorem taw (c : UInt8) (w : World) : Calls Tryz.prog 118 #[.int .u8 c.toNat] w fun e w'=>e = .returned (.bool (isUp c)) ∧ w' = w:=by
  unfold isUp
  simp only [UInt8.le_iff_toNat_le]
  by_cases h1 : 65 ≤ c.toNat
  · by_cases h2 : c.toNat ≤ 90
    · have d1 : decide ((c.toNat : Int) ≥ 65) = true:=by simp;omega
      have d2 : decide ((c.toNat : Int) ≤ 90) = true:=by simp;omega
      go_enter Tryz.func118,Tryz.ntmps118
      go_wp2
      go_ret
      simp [h1,h2]
    · have d1 : decide ((c.toNat : Int) ≥ 65) = true:=by simp;omega
      have d2 : decide ((c.toNat : Int) ≤ 90) = false:=by simp;omega
      go_enter Tryz.func118,Tryz.ntmps118
      go_wp2
      go_ret
      simp [h1,h2]
  · have d1 : decide ((c.toNat : Int) ≥ 65) = false:=by simp;omega
    go_enter Tryz.func118,Tryz.ntmps118
    go_wp2
    go_ret
    simp [h1]
set_option maxRecDepth 100000 in
theorem tax (c : UInt8) (w : World) : Calls Tryz.prog 120 #[.int .u8 c.toNat] w fun e w'=>e = .returned (.bool (isDi c)) ∧ w' = w:=by
  unfold isDi
  simp only [UInt8.le_iff_toNat_le]
  by_cases h1 : 48 ≤ c.toNat
  · by_cases h2 : c.toNat ≤ 57
    · have d1 : decide ((c.toNat : Int) ≥ 48) = true:=by simp;omega
      have d2 : decide ((c.toNat : Int) ≤ 57) = true:=by simp;omega
      go_enter Tryz.func120,Tryz.ntmps120
      go_wp2
      go_ret
      simp [h1,h2]
    · have d1 : decide ((c.toNat : Int) ≥ 48) = true:=by simp;omega
      have d2 : decide ((c.toNat : Int) ≤ 57) = false:=by simp;omega
      go_enter Tryz.func120,Tryz.ntmps120
      go_wp2
      go_ret
      simp [h1,h2]
  · have d1 : decide ((c.toNat : Int) ≥ 48) = false:=by simp;omega
    go_enter Tryz.func120,Tryz.ntmps120
    go_wp2
    go_ret
    simp [h1]
theorem eq95 (c : UInt8) : (c = 95) = (c.toNat = 95):=by
  apply propext
  constructor
  · rintro rfl;rfl
  · intro h;exact UInt8.toNat_inj.1 h
theorem deq95 (c : UInt8) : ((c.toNat : Int) == 95) = decide (c = 95):=by
  simp only [eq95]
  by_cases h : c.toNat = 95
  · simp [h]
  · simp [h];omega
set_option maxRecDepth 100000 in
theorem tff (c : UInt8) (w : World) : Calls Tryz.prog 111 #[.int .u8 c.toNat] w fun e w'=>e = .returned (.bool (t2i c)) ∧ w' = w:=by
  unfold t2i
  have d0:=deq95 c

  cases b0 : isLo c with
  | true =>
    have t0:=t5y c;rw [b0] at t0
    go_enter Tryz.func111,Tryz.ntmps111
    go_wp2_with (first
      | (go_at_call 110;refine (t0 _).mono ?_;rintro e w1 ⟨rfl,rfl⟩))
    go_ret
    simp
  | false =>
    have t0:=t5y c;rw [b0] at t0
    cases b1 : isDi c with
    | true =>
      have t1:=t6y c;rw [b1] at t1
      go_enter Tryz.func111,Tryz.ntmps111
      go_wp2_with (first
        | (go_at_call 110;refine (t0 _).mono ?_;rintro e w1 ⟨rfl,rfl⟩)
        | (go_at_call 112;refine (t1 _).mono ?_;rintro e w1 ⟨rfl,rfl⟩))
      go_ret
      simp
    | false =>
      have t1:=t6y c;rw [b1] at t1
      go_enter Tryz.func111,Tryz.ntmps111
      go_wp2_with (first
        | (go_at_call 110;refine (t0 _).mono ?_;rintro e w1 ⟨rfl,rfl⟩)
        | (go_at_call 112;refine (t1 _).mono ?_;rintro e w1 ⟨rfl,rfl⟩))
      go_ret
      simp
set_option maxRecDepth 100000 in
theorem tfg (c : UInt8) (w : World) : Calls Tryz.prog 114 #[.int .u8 c.toNat] w fun e w'=>e = .returned (.bool (t2f c)) ∧ w' = w:=by
  unfold t2f
  have d0:=deq95 c

  cases b0 : isLo c with
  | true =>
    have t0:=t5y c;rw [b0] at t0
    go_enter Tryz.func114,Tryz.ntmps114
    go_wp2_with (first
      | (go_at_call 110;refine (t0 _).mono ?_;rintro e w1 ⟨rfl,rfl⟩))
    go_ret
    simp
  | false =>
    have t0:=t5y c;rw [b0] at t0
    cases b1 : isUp c with
    | true =>
      have t1:=t9b c;rw [b1] at t1
      go_enter Tryz.func114,Tryz.ntmps114
      go_wp2_with (first
        | (go_at_call 110;refine (t0 _).mono ?_;rintro e w1 ⟨rfl,rfl⟩)
        | (go_at_call 113;refine (t1 _).mono ?_;rintro e w1 ⟨rfl,rfl⟩))
      go_ret
      simp
    | false =>
      have t1:=t9b c;rw [b1] at t1
      cases b2 : isDi c with
      | true =>
        have t2:=t6y c;rw [b2] at t2
        go_enter Tryz.func114,Tryz.ntmps114
        go_wp2_with (first
          | (go_at_call 110;refine (t0 _).mono ?_;rintro e w1 ⟨rfl,rfl⟩)
          | (go_at_call 113;refine (t1 _).mono ?_;rintro e w1 ⟨rfl,rfl⟩)
          | (go_at_call 112;refine (t2 _).mono ?_;rintro e w1 ⟨rfl,rfl⟩))
        go_ret
        simp
      | false =>
        have t2:=t6y c;rw [b2] at t2
        go_enter Tryz.func114,Tryz.ntmps114
        go_wp2_with (first
          | (go_at_call 110;refine (t0 _).mono ?_;rintro e w1 ⟨rfl,rfl⟩)
          | (go_at_call 113;refine (t1 _).mono ?_;rintro e w1 ⟨rfl,rfl⟩)
          | (go_at_call 112;refine (t2 _).mono ?_;rintro e w1 ⟨rfl,rfl⟩))
        go_ret
        simp
end Go.Proofs.YtjgldaaofdpcgaaGreat
namespace Go.Proofs.YtjgldaaofdpcgaaGreat
open Go.RowKit Go.Ident

section
variable {f g : UInt8 → Bool} {s : ByteArray}
theorem t3y (h : s.size < 1 ∨ 16 < s.size) : isNm f g s.data.toList = false:=by
  have hl : s.data.toList.length = s.size:=by show _ = s.data.size;simp
  generalize s.data.toList = l at *
  match l,hl with
  | [],_=>rfl
  | c :: r,hl =>
    have : ¬ r.length ≤ 15:=by simp at hl;omega
    simp [isNm,this]
theorem t9n (h1 : 0 < s.size) (h2 : s.size ≤ 16) : isNm f g s.data.toList = (f s[0] && (s.data.toList.drop 1).all g):=by
  obtain ⟨⟨l⟩⟩:=s
  match l,h1,h2 with
  | c :: r,h1,h2 =>
    have : r.length ≤ 15:=by simp [ByteArray.size] at h2;omega
    simp [isNm,this]
    rfl
theorem t8f {k : Nat} (h : k < s.size) : (s.data.toList.drop k).all g = (g s[k] && (s.data.toList.drop (k + 1)).all g):=by
  rw [List.drop_eq_getElem_cons (show k < s.data.toList.length by show _ < s.data.toList.length;simpa using h)]
  rfl
theorem t9o {k : Nat} (h : s.size ≤ k) : (s.data.toList.drop k).all g = true:=by
  rw [List.drop_eq_nil_of_le (by show s.data.toList.length ≤ k;simpa using h)];rfl
end
set_option maxRecDepth 100000 in
set_option maxHeartbeats 8000000 in
theorem tea (s : ByteArray) (w : World) : Calls Tryz.prog 109 #[.string s,.func (.func 110) #[] #[],.func (.func 111) #[] #[]] w fun e w'=>e = .returned (.bool (isAtm s.data.toList)) ∧ w' = w:=by
  unfold isAtm
  by_cases h1 : s.size < 1
  · rw [t3y (.inl h1)]
    go_enter Tryz.func109,Tryz.ntmps109
    go_wp2
    go_ret
    exact ⟨rfl,rfl⟩
  by_cases h2 : 16 < s.size
  · rw [t3y (.inr h2)]
    have d1 : decide ((s.size : Int) < 1) = false:=by simp;omega
    have d2 : decide ((s.size : Int) > 16) = true:=by simp;omega
    go_enter Tryz.func109,Tryz.ntmps109
    go_wp2
    go_ret
    exact ⟨rfl,rfl⟩
  rw [t9n (by omega) (by omega)]
  obtain ⟨R,hR⟩ : ∃ R,R = (s.data.toList.drop 1).all t2i:=⟨_,rfl⟩
  rw [← hR]
  have HR:=zH hR;clear hR
  have d1 : decide ((s.size : Int) < 1) = false:=by simp;omega
  have d2 : decide ((s.size : Int) > 16) = false:=by simp;omega
  have t0:=t5y (s[0]'(by omega))
  cases hc : isLo (s[0]'(by omega)) with
  | false =>
    rw [hc] at t0
    go_enter Tryz.func109,Tryz.ntmps109
    go_wp2_with (first
      | (go_at_call 110;refine (t0 _).mono ?_;rintro e w1 ⟨rfl,rfl⟩))
    go_ret
    exact ⟨rfl,rfl⟩
  | true =>
    rw [hc] at t0
    go_enter Tryz.func109,Tryz.ntmps109
    go_wp2_with (first
      | (go_at_call 110;refine (t0 _).mono ?_;rintro e w1 ⟨rfl,rfl⟩))
    clear t0
    go_loop [7] (fun i=>∃ k : Nat,1 ≤ k ∧ k ≤ s.size ∧ i = .int .i64 k ∧ (s.data.toList.drop k).all t2i = R) (fun i=>s.size - (intOf i).toNat)
    case atStart=>exact ⟨1,by omega,by omega,rfl,HR.out.symm⟩
    case round =>
      obtain ⟨k,hk1,hk2,rfl,he⟩:=hrel
      by_cases hlt : k < s.size
      · have he2:=t8f (g:=t2i) hlt

        have t1:=tff s[k]
        cases hb : t2i s[k] with
        | true =>
          rw [hb] at t1 he2
          have He:=zH (he2.symm.trans he);clear he he2
          go_wp2_with (first
            | (go_at_call 111;refine (t1 _).mono ?_;rintro e w1 ⟨rfl,rfl⟩))
          exact ⟨⟨k + 1,by omega,by omega,by go_num,He.out⟩,by simp [intOf];omega⟩
        | false =>
          rw [hb] at t1 he2
          have He:=zH (he2.symm.trans he);clear he he2
          go_wp2_with (first
            | (go_at_call 111;refine (t1 _).mono ?_;rintro e w1 ⟨rfl,rfl⟩))
          go_ret
          exact ⟨by rw [← He.out];rfl,rfl⟩
      · have He:=zH ((t9o (s:=s) (g:=t2i) (by omega)).symm.trans he);clear he
        obtain rfl : k = s.size:=by omega
        go_wp2
        go_ret
        exact ⟨by rw [← He.out];rfl,rfl⟩
set_option maxRecDepth 100000 in
set_option maxHeartbeats 8000000 in
theorem teb (s : ByteArray) (w : World) : Calls Tryz.prog 109 #[.string s,.func (.func 113) #[] #[],.func (.func 114) #[] #[]] w fun e w'=>e = .returned (.bool (isVrb s.data.toList)) ∧ w' = w:=by
  unfold isVrb
  by_cases h1 : s.size < 1
  · rw [t3y (.inl h1)]
    go_enter Tryz.func109,Tryz.ntmps109
    go_wp2
    go_ret
    exact ⟨rfl,rfl⟩
  by_cases h2 : 16 < s.size
  · rw [t3y (.inr h2)]
    have d1 : decide ((s.size : Int) < 1) = false:=by simp;omega
    have d2 : decide ((s.size : Int) > 16) = true:=by simp;omega
    go_enter Tryz.func109,Tryz.ntmps109
    go_wp2
    go_ret
    exact ⟨rfl,rfl⟩
  rw [t9n (by omega) (by omega)]
  obtain ⟨R,hR⟩ : ∃ R,R = (s.data.toList.drop 1).all t2f:=⟨_,rfl⟩
  rw [← hR]
  have HR:=zH hR;clear hR
  have d1 : decide ((s.size : Int) < 1) = false:=by simp;omega
  have d2 : decide ((s.size : Int) > 16) = false:=by simp;omega
  have t0:=t9b (s[0]'(by omega))
  cases hc : isUp (s[0]'(by omega)) with
  | false =>
    rw [hc] at t0
    go_enter Tryz.func109,Tryz.ntmps109
    go_wp2_with (first
      | (go_at_call 113;refine (t0 _).mono ?_;rintro e w1 ⟨rfl,rfl⟩))
    go_ret
    exact ⟨rfl,rfl⟩
  | true =>
    rw [hc] at t0
    go_enter Tryz.func109,Tryz.ntmps109
    go_wp2_with (first
      | (go_at_call 113;refine (t0 _).mono ?_;rintro e w1 ⟨rfl,rfl⟩))
    clear t0
    go_loop [7] (fun i=>∃ k : Nat,1 ≤ k ∧ k ≤ s.size ∧ i = .int .i64 k ∧ (s.data.toList.drop k).all t2f = R) (fun i=>s.size - (intOf i).toNat)
    case atStart=>exact ⟨1,by omega,by omega,rfl,HR.out.symm⟩
    case round =>
      obtain ⟨k,hk1,hk2,rfl,he⟩:=hrel
      by_cases hlt : k < s.size
      · have he2:=t8f (g:=t2f) hlt

        have t1:=tfg s[k]
        cases hb : t2f s[k] with
        | true =>
          rw [hb] at t1 he2
          have He:=zH (he2.symm.trans he);clear he he2
          go_wp2_with (first
            | (go_at_call 114;refine (t1 _).mono ?_;rintro e w1 ⟨rfl,rfl⟩))
          exact ⟨⟨k + 1,by omega,by omega,by go_num,He.out⟩,by simp [intOf];omega⟩
        | false =>
          rw [hb] at t1 he2
          have He:=zH (he2.symm.trans he);clear he he2
          go_wp2_with (first
            | (go_at_call 114;refine (t1 _).mono ?_;rintro e w1 ⟨rfl,rfl⟩))
          go_ret
          exact ⟨by rw [← He.out];rfl,rfl⟩
      · have He:=zH ((t9o (s:=s) (g:=t2f) (by omega)).symm.trans he);clear he
        obtain rfl : k = s.size:=by omega
        go_wp2
        go_ret
        exact ⟨by rw [← He.out];rfl,rfl⟩
set_option maxRecDepth 100000 in
set_option maxHeartbeats 8000000 in
theorem t8g (s : ByteArray) (w : World) : Calls Tryz.prog 86 #[.string s] w fun e w'=>e = .returned (.bool (isAtm s.data.toList)) ∧ w' = w:=by
  go_enter Tryz.func86,Tryz.ntmps86
  go_wp2_with (first
    | (go_at_call 109;refine (tea s _).mono ?_;rintro e w1 ⟨rfl,rfl⟩))
  go_ret
  exact ⟨rfl,rfl⟩
set_option maxRecDepth 100000 in
set_option maxHeartbeats 8000000 in
theorem t7k (s : ByteArray) (w : World) : Calls Tryz.prog 87 #[.string s] w fun e w'=>e = .returned (.bool (isVrb s.data.toList)) ∧ w' = w:=by
  go_enter Tryz.func87,Tryz.ntmps87
  go_wp2_with (first
    | (go_at_call 109;refine (teb s _).mono ?_;rintro e w1 ⟨rfl,rfl⟩))
  go_ret
  exact ⟨rfl,rfl⟩
set_option maxRecDepth 100000 in
set_option maxHeartbeats 8000000 in
theorem t5b (s : ByteArray) (w : World) : Calls Tryz.prog 97 #[.string s] w fun e w'=>e = .returned (.bool (isAtm s.data.toList)) ∧ w' = w:=by
  unfold isAtm
  by_cases h1 : s.size < 1
  · rw [t3y (.inl h1)]
    go_enter Tryz.func97,Tryz.ntmps97
    go_wp2
    go_ret
    exact ⟨rfl,rfl⟩
  by_cases h2 : 16 < s.size
  · rw [t3y (.inr h2)]
    have d1 : decide ((s.size : Int) < 1) = false:=by simp;omega
    have d2 : decide ((s.size : Int) > 16) = true:=by simp;omega
    go_enter Tryz.func97,Tryz.ntmps97
    go_wp2
    go_ret
    exact ⟨rfl,rfl⟩
  rw [t9n (by omega) (by omega)]
  obtain ⟨R,hR⟩ : ∃ R,R = (s.data.toList.drop 1).all t2i:=⟨_,rfl⟩
  rw [← hR]
  have HR:=zH hR;clear hR
  have d1 : decide ((s.size : Int) < 1) = false:=by simp;omega
  have d2 : decide ((s.size : Int) > 16) = false:=by simp;omega
  have t0:=t8e (s[0]'(by omega))
  cases hc : isLo (s[0]'(by omega)) with
  | false =>
    rw [hc] at t0
    go_enter Tryz.func97,Tryz.ntmps97
    go_wp2_with (first
      | (go_at_call 119;refine (t0 _).mono ?_;rintro e w1 ⟨rfl,rfl⟩))
    go_ret
    exact ⟨rfl,rfl⟩
  | true =>
    rw [hc] at t0
    go_enter Tryz.func97,Tryz.ntmps97
    go_wp2_with (first
      | (go_at_call 119;refine (t0 _).mono ?_;rintro e w1 ⟨rfl,rfl⟩))
    clear t0
    go_loop [3] (fun i=>∃ k : Nat,1 ≤ k ∧ k ≤ s.size ∧ i = .int .i64 k ∧ (s.data.toList.drop k).all t2i = R) (fun i=>s.size - (intOf i).toNat)
    case atStart=>exact ⟨1,by omega,by omega,rfl,HR.out.symm⟩
    case round =>
      obtain ⟨k,hk1,hk2,rfl,he⟩:=hrel
      by_cases hlt : k < s.size
      · have he2:=t8f (g:=t2i) hlt

        have trlower:=t8e s[k]
        cases b0 : isLo s[k] with
        | true =>
          rw [b0] at trlower
          have hb : t2i s[k] = true:=by simp [t2i,b0]
          rw [hb] at he2
          have He:=zH (he2.symm.trans he);clear he he2 hb b0
          go_wp2_with (first
            | (go_at_call 119;refine (trlower _).mono ?_;rintro e w1 ⟨rfl,rfl⟩))
          exact ⟨⟨k + 1,by omega,by omega,by go_num,He.out⟩,by simp [intOf];omega⟩
        | false =>
          rw [b0] at trlower
          have trdigit:=tax s[k]
          cases b1 : isDi s[k] with
          | true =>
            rw [b1] at trdigit
            have hb : t2i s[k] = true:=by simp [t2i,b0,b1]
            rw [hb] at he2
            have He:=zH (he2.symm.trans he);clear he he2 hb b0 b1
            go_wp2_with (first
              | (go_at_call 119;refine (trlower _).mono ?_;rintro e w1 ⟨rfl,rfl⟩)
              | (go_at_call 120;refine (trdigit _).mono ?_;rintro e w1 ⟨rfl,rfl⟩))
            exact ⟨⟨k + 1,by omega,by omega,by go_num,He.out⟩,by simp [intOf];omega⟩
          | false =>
            rw [b1] at trdigit
            have d9:=deq95 s[k]
            by_cases h9 : s[k] = 95
            · rw [decide_eq_true h9] at d9
              have d8 : ((s[k].toNat : Int) != 95) = false:=by simp only [bne,d9];rfl
              have hb : t2i s[k] = true:=by simp [t2i,h9]
              rw [hb] at he2
              have He:=zH (he2.symm.trans he);clear he he2 hb b0 b1 h9
              go_wp2_with (first
                | (go_at_call 119;refine (trlower _).mono ?_;rintro e w1 ⟨rfl,rfl⟩)
                | (go_at_call 120;refine (trdigit _).mono ?_;rintro e w1 ⟨rfl,rfl⟩))
              exact ⟨⟨k + 1,by omega,by omega,by go_num,He.out⟩,by simp [intOf];omega⟩
            · rw [decide_eq_false h9] at d9
              have d8 : ((s[k].toNat : Int) != 95) = true:=by simp only [bne,d9];rfl
              have hb : t2i s[k] = false:=by simp [t2i,b0,b1,h9]
              rw [hb] at he2
              have He:=zH (he2.symm.trans he);clear he he2 hb b0 b1 h9
              go_wp2_with (first
                | (go_at_call 119;refine (trlower _).mono ?_;rintro e w1 ⟨rfl,rfl⟩)
                | (go_at_call 120;refine (trdigit _).mono ?_;rintro e w1 ⟨rfl,rfl⟩))
              go_ret
              exact ⟨by rw [← He.out];rfl,rfl⟩
      · have He:=zH ((t9o (s:=s) (g:=t2i) (by omega)).symm.trans he);clear he
        obtain rfl : k = s.size:=by omega
        go_wp2
        go_ret
        exact ⟨by rw [← He.out];rfl,rfl⟩
set_option maxRecDepth 100000 in
set_option maxHeartbeats 8000000 in
theorem t4s (s : ByteArray) (w : World) : Calls Tryz.prog 96 #[.string s] w fun e w'=>e = .returned (.bool (isVrb s.data.toList)) ∧ w' = w:=by
  unfold isVrb
  by_cases h1 : s.size < 1
  · rw [t3y (.inl h1)]
    go_enter Tryz.func96,Tryz.ntmps96
    go_wp2
    go_ret
    exact ⟨rfl,rfl⟩
  by_cases h2 : 16 < s.size
  · rw [t3y (.inr h2)]
    have d1 : decide ((s.size : Int) < 1) = false:=by simp;omega
    have d2 : decide ((s.size : Int) > 16) = true:=by simp;omega
    go_enter Tryz.func96,Tryz.ntmps96
    go_wp2
    go_ret
    exact ⟨rfl,rfl⟩
  rw [t9n (by omega) (by omega)]
  obtain ⟨R,hR⟩ : ∃ R,R = (s.data.toList.drop 1).all t2f:=⟨_,rfl⟩
  rw [← hR]
  have HR:=zH hR;clear hR
  have d1 : decide ((s.size : Int) < 1) = false:=by simp;omega
  have d2 : decide ((s.size : Int) > 16) = false:=by simp;omega
  have t0:=taw (s[0]'(by omega))
  cases hc : isUp (s[0]'(by omega)) with
  | false =>
    rw [hc] at t0
    go_enter Tryz.func96,Tryz.ntmps96
    go_wp2_with (first
      | (go_at_call 118;refine (t0 _).mono ?_;rintro e w1 ⟨rfl,rfl⟩))
    go_ret
    exact ⟨rfl,rfl⟩
  | true =>
    rw [hc] at t0
    go_enter Tryz.func96,Tryz.ntmps96
    go_wp2_with (first
      | (go_at_call 118;refine (t0 _).mono ?_;rintro e w1 ⟨rfl,rfl⟩))
    clear t0
    go_loop [3] (fun i=>∃ k : Nat,1 ≤ k ∧ k ≤ s.size ∧ i = .int .i64 k ∧ (s.data.toList.drop k).all t2f = R) (fun i=>s.size - (intOf i).toNat)
    case atStart=>exact ⟨1,by omega,by omega,rfl,HR.out.symm⟩
    case round =>
      obtain ⟨k,hk1,hk2,rfl,he⟩:=hrel
      by_cases hlt : k < s.size
      · have he2:=t8f (g:=t2f) hlt

        have trlower:=t8e s[k]
        cases b0 : isLo s[k] with
        | true =>
          rw [b0] at trlower
          have hb : t2f s[k] = true:=by simp [t2f,b0]
          rw [hb] at he2
          have He:=zH (he2.symm.trans he);clear he he2 hb b0
          go_wp2_with (first
            | (go_at_call 119;refine (trlower _).mono ?_;rintro e w1 ⟨rfl,rfl⟩))
          exact ⟨⟨k + 1,by omega,by omega,by go_num,He.out⟩,by simp [intOf];omega⟩
        | false =>
          rw [b0] at trlower
          have trupper:=taw s[k]
          cases b1 : isUp s[k] with
          | true =>
            rw [b1] at trupper
            have hb : t2f s[k] = true:=by simp [t2f,b0,b1]
            rw [hb] at he2
            have He:=zH (he2.symm.trans he);clear he he2 hb b0 b1
            go_wp2_with (first
              | (go_at_call 119;refine (trlower _).mono ?_;rintro e w1 ⟨rfl,rfl⟩)
              | (go_at_call 118;refine (trupper _).mono ?_;rintro e w1 ⟨rfl,rfl⟩))
            exact ⟨⟨k + 1,by omega,by omega,by go_num,He.out⟩,by simp [intOf];omega⟩
          | false =>
            rw [b1] at trupper
            have trdigit:=tax s[k]
            cases b2 : isDi s[k] with
            | true =>
              rw [b2] at trdigit
              have hb : t2f s[k] = true:=by simp [t2f,b0,b1,b2]
              rw [hb] at he2
              have He:=zH (he2.symm.trans he);clear he he2 hb b0 b1 b2
              go_wp2_with (first
                | (go_at_call 119;refine (trlower _).mono ?_;rintro e w1 ⟨rfl,rfl⟩)
                | (go_at_call 118;refine (trupper _).mono ?_;rintro e w1 ⟨rfl,rfl⟩)
                | (go_at_call 120;refine (trdigit _).mono ?_;rintro e w1 ⟨rfl,rfl⟩))
              exact ⟨⟨k + 1,by omega,by omega,by go_num,He.out⟩,by simp [intOf];omega⟩
            | false =>
              rw [b2] at trdigit
              have d9:=deq95 s[k]
              by_cases h9 : s[k] = 95
              · rw [decide_eq_true h9] at d9
                have d8 : ((s[k].toNat : Int) != 95) = false:=by simp only [bne,d9];rfl
                have hb : t2f s[k] = true:=by simp [t2f,h9]
                rw [hb] at he2
                have He:=zH (he2.symm.trans he);clear he he2 hb b0 b1 b2 h9
                go_wp2_with (first
                  | (go_at_call 119;refine (trlower _).mono ?_;rintro e w1 ⟨rfl,rfl⟩)
                  | (go_at_call 118;refine (trupper _).mono ?_;rintro e w1 ⟨rfl,rfl⟩)
                  | (go_at_call 120;refine (trdigit _).mono ?_;rintro e w1 ⟨rfl,rfl⟩))
                exact ⟨⟨k + 1,by omega,by omega,by go_num,He.out⟩,by simp [intOf];omega⟩
              · rw [decide_eq_false h9] at d9
                have d8 : ((s[k].toNat : Int) != 95) = true:=by simp only [bne,d9];rfl
                have hb : t2f s[k] = false:=by simp [t2f,b0,b1,b2,h9]
                rw [hb] at he2
                have He:=zH (he2.symm.trans he);clear he he2 hb b0 b1 b2 h9
                go_wp2_with (first
                  | (go_at_call 119;refine (trlower _).mono ?_;rintro e w1 ⟨rfl,rfl⟩)
                  | (go_at_call 118;refine (trupper _).mono ?_;rintro e w1 ⟨rfl,rfl⟩)
                  | (go_at_call 120;refine (trdigit _).mono ?_;rintro e w1 ⟨rfl,rfl⟩))
                go_ret
                exact ⟨by rw [← He.out];rfl,rfl⟩
      · have He:=zH ((t9o (s:=s) (g:=t2f) (by omega)).symm.trans he);clear he
        obtain rfl : k = s.size:=by omega
        go_wp2
        go_ret
        exact ⟨by rw [← He.out];rfl,rfl⟩
end Go.Proofs.YtjgldaaofdpcgaaGreat
