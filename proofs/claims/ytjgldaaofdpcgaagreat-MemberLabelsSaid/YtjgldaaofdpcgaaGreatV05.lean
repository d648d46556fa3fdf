/- Walks and plain facts for the laws of membership, for all values and types that the heap holds (texts Nc Shp V0 K1). -/
import Derived.Below
import Derived.Shelf.Small.Strs
import Derived.Shelf.Small.Wraps
import Derived.Test.YtjgldaaofdpcgaaGreatProg
import Derived.Test.YtjgldaaofdpcgaaGreatV03
import Derived.Test.YtjgldaaofdpcgaaGreatV04
set_option linter.unusedVariables false
set_option linter.unusedSimpArgs false
namespace Go.Proofs.YtjgldaaofdpcgaaGreat
open Go.RowKit Go.Ident

set_option maxRecDepth 100000 in
set_option maxHeartbeats 8000000 in
theorem t6n (k : Int) (s : ByteArray) (w : World) : Calls Tryz.prog 115 #[.agg #[.int .i64 k,.string s]] w fun e w'=>e = .returned (.bool (valK k s.data.toList)) ∧ Below w.heap.size w w':=by
  have hB:=(Below.refl w.heap.size w).alloc (Nat.le_refl _) (.cells #[.int .i64 k,.string s] 73)
  have HB:=zH hB;clear hB
  unfold valK
  by_cases h0 : k = 0
  · subst h0
    go_enter Tryz.func115,Tryz.ntmps115
    go_wp2_with (first
      | (go_at_call 86;refine (t8f s _).mono ?_;rintro e w1 ⟨rfl,rfl⟩))
    go_ret
    exact ⟨rfl,HB.out⟩
  rw [if_neg h0]
  have d0 : (k == 0) = false:=by simpa using h0
  by_cases h1 : k = 1
  · subst h1
    rw [if_pos rfl]
    have hl : s.data.toList.length = s.size:=by show _ = s.data.size;simp
    rw [hl]
    go_enter Tryz.func115,Tryz.ntmps115
    go_wp2
    go_ret
    refine ⟨?_,HB.out⟩
    by_cases hs : s.size ≤ 64
    · simp [hs];omega
    · simp [hs];omega
  rw [if_neg h1]
  have d1 : (k == 1) = false:=by simpa using h1
  go_enter Tryz.func115,Tryz.ntmps115
  go_wp2
  go_ret
  exact ⟨rfl,HB.out⟩
set_option maxRecDepth 100000 in
set_option maxHeartbeats 8000000 in
theorem t6v (k : Int) (s : ByteArray) (w : World) : Calls Tryz.prog 82 #[.agg #[.int .i64 k,.string s]] w fun e w'=>e = .returned (.bool (valK k s.data.toList)) ∧ Below w.heap.size w w':=by
  have hB:=(Below.refl w.heap.size w).alloc (Nat.le_refl _) (.cells #[.int .i64 k,.string s] 73)
  have HB:=zH hB;clear hB
  unfold valK
  by_cases h0 : k = 0
  · subst h0
    rw [if_pos rfl]
    have t:=isAtm s.data.toList
    cases hc : isAtm s.data.toList with
    | true =>
      have t:=t5u s;rw [hc] at t
      go_enter Tryz.func82,Tryz.ntmps82
      go_wp2_with (first
        | (go_at_call 97;refine (t _).mono ?_;rintro e w1 ⟨rfl,rfl⟩))
      go_ret
      exact ⟨rfl,HB.out⟩
    | false =>
      have t:=t5u s;rw [hc] at t
      go_enter Tryz.func82,Tryz.ntmps82
      go_wp2_with (first
        | (go_at_call 97;refine (t _).mono ?_;rintro e w1 ⟨rfl,rfl⟩))
      go_ret
      exact ⟨rfl,HB.out⟩
  rw [if_neg h0]
  have d0 : (k == 0) = false:=by simpa using h0
  by_cases h1 : k = 1
  · subst h1
    rw [if_pos rfl]
    have hl : s.data.toList.length = s.size:=by show _ = s.data.size;simp
    rw [hl]
    go_enter Tryz.func82,Tryz.ntmps82
    go_wp2
    go_ret
    refine ⟨?_,HB.out⟩
    by_cases hs : s.size ≤ 64
    · simp [hs];omega
    · simp [hs];omega
  rw [if_neg h1]
  have d1 : (k == 1) = false:=by simpa using h1
  go_enter Tryz.func82,Tryz.ntmps82
  go_wp2
  go_ret
  exact ⟨rfl,HB.out⟩
end Go.Proofs.YtjgldaaofdpcgaaGreat
namespace Go.Proofs
def Tryz.lays106_ren : Go.Shelf.Ren:=⟨fun | 106=>122 | 213=>128 | 265=>133 | n=>n,fun | 9=>9 | 3=>3 | n=>n,fun | n=>n⟩
theorem Tryz.lays106 : Go.Proofs.Lays.n106 Tryz.prog Tryz.lays106_ren:={
  mixed:=by kernel_rfl
  f106:=Tryz.func122.trans (congrArg some (by kernel_rfl))
  f213:=Tryz.func128.trans (congrArg some (by kernel_rfl))
  f265:=Tryz.func133.trans (congrArg some (by kernel_rfl))
  t3:=Tryz.underlying3
  a3:=Tryz.isAgg3
  z3:=Tryz.sizeOf3
  v3:=Tryz.zeroValue3
  t9:=Tryz.underlying9
  a9:=Tryz.isAgg9
  z9:=Tryz.sizeOf9
  v9:=Tryz.zeroValue9 }
open Go.RowKit in
theorem Tryz.strings_Compare (a b : ByteArray) (w : World) :
    Calls Tryz.prog 122 #[.string a,.string b] w fun e w'=>e = .returned (.int .i64 (Lib.compareBytes a.data.toList b.data.toList)) ∧ w' = w:=Any.strings_Compare Tryz.lays106 a b w
def Tryz.lays122_ren : Go.Shelf.Ren:=⟨fun | 122=>127 | 215=>132 | n=>n,fun | 3=>3 | 4=>4 | n=>n,fun | n=>n⟩
theorem Tryz.lays122 : Go.Proofs.Lays.n122 Tryz.prog Tryz.lays122_ren:={
  mixed:=by kernel_rfl
  f122:=Tryz.func127.trans (congrArg some (by kernel_rfl))
  f215:=Tryz.func132.trans (congrArg some (by kernel_rfl))
  t3:=Tryz.underlying3
  a3:=Tryz.isAgg3
  z3:=Tryz.sizeOf3
  v3:=Tryz.zeroValue3
  t4:=Tryz.underlying4
  a4:=Tryz.isAgg4
  z4:=Tryz.sizeOf4
  v4:=Tryz.zeroValue4 }
open Go.RowKit in
theorem Tryz.cmp_Compare_int (x y : Int) (w : World) :
    Calls Tryz.prog 127 #[.int .i64 x,.int .i64 y] w fun e w'=>e = .returned (.int .i64 (Lib.compareInt x y)) ∧ w' = w:=Any.cmp_Compare_int Tryz.lays122 x y w
end Go.Proofs
namespace Go.Proofs.YtjgldaaofdpcgaaGreat
open Go.Ident

structure KK where
  kind : Int
  text : ByteArray
  deriving DecidableEq
mutual
inductive VV where
  | mk (kind num : Int) (text : ByteArray) (kids : List VV) (keys : List KK) (ents : List EE) (labels : List ByteArray)
inductive EE where
  | mk (args : List VV) (fails : Bool) (res : VV)
end
def VV.kind : VV → Int | .mk k _ _ _ _ _ _=>k
def VV.num : VV → Int | .mk _ n _ _ _ _ _=>n
def VV.text : VV → ByteArray | .mk _ _ t _ _ _ _=>t
def VV.kids : VV → List VV | .mk _ _ _ l _ _ _=>l
def VV.keys : VV → List KK | .mk _ _ _ _ l _ _=>l
def VV.ents : VV → List EE | .mk _ _ _ _ _ l _=>l
def VV.labels : VV → List ByteArray | .mk _ _ _ _ _ _ l=>l
def EE.args : EE → List VV | .mk a _ _=>a
def EE.fails : EE → Bool | .mk _ f _=>f
def EE.res : EE → VV | .mk _ _ r=>r
def t0t : ByteArray:=⟨#[]⟩
def zeroV : VV:=.mk 0 0 t0t [] [] [] []
mutual
def VV.ht : VV → Nat
  | .mk _ _ _ kids _ ents _=>max (htVs kids) (htEs ents) + 1
def EE.ht : EE → Nat
  | .mk args _ res=>max (htVs args) res.ht
def htVs : List VV → Nat
  | []=>0
  | x :: r=>max x.ht (htVs r)
def htEs : List EE → Nat
  | []=>0
  | x :: r=>max x.ht (htEs r)
end
theorem tad : ∀ {l : List VV} {x : VV},x ∈ l → x.ht ≤ htVs l
  | y :: r,x,h=>by
    rw [htVs]
    rcases List.mem_cons.1 h with rfl | h
    · omega
    · have:=tad h;omega
theorem td4 : ∀ {l : List EE} {x : EE},x ∈ l → x.ht ≤ htEs l
  | y :: r,x,h=>by
    rw [htEs]
    rcases List.mem_cons.1 h with rfl | h
    · omega
    · have:=td4 h;omega
theorem t3d {v x : VV} (h : x ∈ v.kids) : x.ht < v.ht:=by
  cases v with | mk k n t kids keys ents labels =>
  have:=tad (show x ∈ kids from h)
  rw [VV.ht];omega
theorem t3u {v : VV} {e : EE} (h : e ∈ v.ents) : e.ht < v.ht:=by
  cases v with | mk k n t kids keys ents labels =>
  have:=td4 (show e ∈ ents from h)
  rw [VV.ht];omega
theorem t3k {e : EE} {x : VV} (h : x ∈ e.args) : x.ht ≤ e.ht:=by
  cases e with | mk args f res =>
  have:=tad (show x ∈ args from h)
  rw [EE.ht];omega
theorem t3l (e : EE) : e.res.ht ≤ e.ht:=by
  cases e with | mk args f res =>
  show res.ht ≤ _
  rw [EE.ht];omega
theorem t3m (v : VV) : 0 < v.ht:=by cases v;rw [VV.ht];omega
def ordI (a b : Int) : Int:=if a < b then -1 else if b < a then 1 else 0
def nz (a b : Int) : Int:=if a = 0 then b else a
def lexL {α : Type} (f : α → α → Int) : List α → List α → Int
  | x :: r,y :: s=>nz (f x y) (lexL f r s)
  | _,_=>0
def cmpL {α : Type} (f : α → α → Int) (a b : List α) : Int:=nz (ordI a.length b.length) (lexL f a b)
def lexB : List UInt8 → List UInt8 → Int
  | [],[]=>0
  | [],_ :: _=>-1
  | _ :: _,[]=>1
  | x :: r,y :: s=>if x < y then -1 else if y < x then 1 else lexB r s
def ordS (a b : ByteArray) : Int:=lexB a.data.toList b.data.toList
def cmpK (a b : KK) : Int:=nz (ordI a.kind b.kind) (ordS a.text b.text)
mutual
def cmpV : VV → VV → Int
  | .mk k n t kids keys ents labels,b =>
    nz (ordI k b.kind) (nz (ordI n b.num) (nz (ordS t b.text) (nz (cmpL cmpK keys b.keys) (nz (nz (ordI kids.length b.kids.length) (lexVs kids b.kids)) (nz (nz (ordI ents.length b.ents.length) (lexEs ents b.ents)) (cmpL ordS labels b.labels))))))
def cmpE : EE → EE → Int
  | .mk args f res,b=>nz (nz (ordI args.length b.args.length) (lexVs args b.args)) (nz (if f = b.fails then 0 else if f then -1 else 1) (cmpV res b.res))
def lexVs : List VV → List VV → Int
  | x :: r,y :: s=>nz (cmpV x y) (lexVs r s)
  | [],_=>0
  | _ :: _,[]=>0
def lexEs : List EE → List EE → Int
  | x :: r,y :: s=>nz (cmpE x y) (lexEs r s)
  | [],_=>0
  | _ :: _,[]=>0
end
theorem tae : ∀ a b,lexVs a b = lexL cmpV a b
  | [],_=>by rw [lexVs,lexL];simp
  | _ :: _,[]=>by rw [lexVs,lexL];simp
  | x :: r,y :: s=>by rw [lexVs,lexL,tae r s]
theorem td5 : ∀ a b,lexEs a b = lexL cmpE a b
  | [],_=>by rw [lexEs,lexL];simp
  | _ :: _,[]=>by rw [lexEs,lexL];simp
  | x :: r,y :: s=>by rw [lexEs,lexL,td5 r s]
theorem t9p (a b : VV) : cmpV a b = nz (ordI a.kind b.kind) (nz (ordI a.num b.num) (nz (ordS a.text b.text) (nz (cmpL cmpK a.keys b.keys) (nz (cmpL cmpV a.kids b.kids) (nz (cmpL cmpE a.ents b.ents) (cmpL ordS a.labels b.labels)))))):=by
  cases a with | mk k n t kids keys ents labels =>
  rw [cmpV,tae,td5];rfl
theorem t9q (a b : EE) : cmpE a b = nz (cmpL cmpV a.args b.args) (nz (if a.fails = b.fails then 0 else if a.fails then -1 else 1) (cmpV a.res b.res)):=by
  cases a with | mk args f res =>
  rw [cmpE,tae];rfl
def ascL {α : Type} (f : α → α → Int) : List α → Bool
  | x :: y :: r=>decide (f x y < 0) && ascL f (y :: r)
  | _=>true
def t2e (k : Int) : Bool:=decide (k = 1) || decide (k = 4) || decide (k = 9)
def t1y (k : Int) : Bool:=decide (k = 2) || decide (k = 3)
def t2b (k : Int) : Bool:=decide (k = 6) || decide (k = 7) || decide (k = 8)
def entOk (num : Int) (e : EE) : Bool:=decide ((e.args.length : Int) = num) && (!e.fails || decide (cmpV e.res zeroV = 0))
def t3v (l : List VV) : Bool:=match l[1]? with | some t=>decide (t.kind = 5) || decide (t.kind = 7) | none=>false
def nodeV (v : VV) : Bool :=
  (decide (1 ≤ v.kind) && decide (v.kind ≤ 9)) && (ascL ordS v.labels && v.labels.all fun s=>isVrb s.data.toList) &&
  ((t2e v.kind || decide (v.num = 0)) && (t1y v.kind || decide (v.text.size = 0)) && (t2b v.kind || v.kids.isEmpty) && (decide (v.kind = 8) || v.keys.isEmpty) && (decide (v.kind = 9) || v.ents.isEmpty)) &&
  (if v.kind = 2 then decide (v.text.size ≤ 64) else if v.kind = 3 then isAtm v.text.data.toList else if v.kind = 4 then decide (0 ≤ v.num) else if v.kind = 6 then decide (v.kids.length ≤ 4)
   else if v.kind = 7 then decide (v.kids.length = 2) && t3v v.kids
   else if v.kind = 8 then decide (v.keys.length = v.kids.length) && (ascL cmpK v.keys && v.keys.all fun k=>valK k.kind k.text.data.toList)
   else if v.kind = 9 then decide (0 ≤ v.num) && decide (v.num ≤ 4) && (ascL cmpE v.ents && v.ents.all (entOk v.num)) else true)
mutual
def VV.valid : VV → Bool
  | .mk k n t kids keys ents labels=>nodeV (.mk k n t kids keys ents labels) && (validVs kids && validEs ents)
def EE.validIn : EE → Bool
  | .mk args f res=>validVs args && (f || res.valid)
def validVs : List VV → Bool
  | []=>true
  | x :: r=>x.valid && validVs r
def validEs : List EE → Bool
  | []=>true
  | x :: r=>x.validIn && validEs r
end
theorem t8g : ∀ l,validVs l = l.all VV.valid
  | []=>by rw [validVs];rfl
  | x :: r=>by rw [validVs,t8g r];rfl
theorem taz : ∀ l,validEs l = l.all EE.validIn
  | []=>by rw [validEs];rfl
  | x :: r=>by rw [validEs,taz r];rfl
theorem t4t (v : VV) : v.valid = (nodeV v && (v.kids.all VV.valid && v.ents.all EE.validIn)):=by
  cases v with | mk k n t kids keys ents labels=>rw [VV.valid,t8g,taz];rfl
theorem t6a (e : EE) : e.validIn = (e.args.all VV.valid && (e.fails || e.res.valid)):=by
  cases e with | mk a f r=>rw [EE.validIn,t8g];rfl
end Go.Proofs.YtjgldaaofdpcgaaGreat
namespace Go.Proofs.YtjgldaaofdpcgaaGreat
open Go.RowKit Go.Ident

theorem tes (s : ByteArray) : s.data.toList = s.toList:=(ByteArray.toList_eq s).symm
theorem ta4 {w a : World} (h : Below w.heap.size w a) (o : Obj) : Below w.heap.size w (a.alloc o):=h.alloc h.size o
theorem tgg (a : List UInt8) : ∀ b,Lib.compareBytes a b = if Op.bytesLess a b then -1 else if Op.bytesLess b a then 1 else 0:=by
  induction a with
  | nil=>intro b;cases b <;> simp [Lib.compareBytes,Op.bytesLess]
  | cons x r ih =>
    intro b
    cases b with
    | nil=>simp [Lib.compareBytes,Op.bytesLess]
    | cons y q =>
      simp only [Lib.compareBytes,Op.bytesLess]
      by_cases h1 : x < y
      · simp [h1]
      · by_cases h2 : y < x
        · have hne : x ≠ y:=by rintro rfl;exact h1 h2
          simp [h1,h2,hne]
        · have he : x = y:=UInt8.le_antisymm (UInt8.not_lt.1 h2) (UInt8.not_lt.1 h1)
          subst he
          simp [h1,ih]
theorem bl_gt (a : List UInt8) : ∀ b,(!(Op.bytesLess a b || a == b)) = Op.bytesLess b a:=by
  induction a with
  | nil=>intro b;cases b <;> simp [Op.bytesLess]
  | cons x r ih =>
    intro b
    cases b with
    | nil=>simp [Op.bytesLess]
    | cons y q =>
      simp only [Op.bytesLess]
      by_cases h1 : x < y
      · have h2 : ¬ y < x:=fun h=>by rw [UInt8.lt_iff_toNat_lt] at h h1;omega
        have hne : y ≠ x:=by rintro rfl;exact h2 h1
        simp [h1,h2,hne]
      · by_cases h2 : y < x
        · have hne : x ≠ y:=by rintro rfl;exact h1 h2
          simp [h1,h2,hne]
        · have he : x = y:=UInt8.le_antisymm (UInt8.not_lt.1 h2) (UInt8.not_lt.1 h1)
          subst he
          simpa [h1] using ih q
theorem tbn (w : World) (a b : ByteArray) : (binOp .gtr 9 (.string a) (.string b)).run Tryz.prog w = .ok (.bool (Op.bytesLess b.toList a.toList)) w:=by
  rw [← bl_gt]
  simp [binOp,Op.stringOp]
set_option maxRecDepth 100000 in
theorem tc0 (x y : Int) (w : World) : Calls Tryz.prog 102 #[.int .i64 x,.int .i64 y] w fun e w'=>e = .returned (.int .i64 (Lib.compareInt x y)) ∧ w' = w:=by
  unfold Lib.compareInt
  by_cases h1 : x < y
  · rw [if_pos h1]
    go_enter Tryz.func102,Tryz.ntmps102
    go_wp2
    go_ret
    exact ⟨rfl,rfl⟩
  · rw [if_neg h1]
    by_cases h2 : x > y
    · rw [if_pos h2]
      go_enter Tryz.func102,Tryz.ntmps102
      go_wp2
      go_ret
      exact ⟨rfl,rfl⟩
    · rw [if_neg h2]
      go_enter Tryz.func102,Tryz.ntmps102
      go_wp2
      go_ret
      exact ⟨rfl,rfl⟩
set_option maxRecDepth 100000 in
theorem td6 (a b : ByteArray) (w : World) : Calls Tryz.prog 103 #[.string a,.string b] w fun e w'=>e = .returned (.int .i64 (Lib.compareBytes a.data.toList b.data.toList)) ∧ w' = w:=by
  have hgt:=tbn (a:=a) (b:=b)
  rw [tgg,tes,tes]
  cases h1 : Op.bytesLess a.toList b.toList with
  | true =>
    go_enter Tryz.func103,Tryz.ntmps103
    go_wp2
    go_ret
    exact ⟨rfl,rfl⟩
  | false =>
    cases h2 : Op.bytesLess b.toList a.toList with
    | true =>
      have d:=bl_gt a.toList b.toList
      rw [h1,h2,Bool.false_or] at d
      have d':=congrArg (fun b=>!b) d
      simp only [Bool.not_not] at d'
      rw [h2] at hgt
      go_enter Tryz.func103,Tryz.ntmps103
      go_wp2
      go_ret
      exact ⟨rfl,rfl⟩
    | false =>
      have d:=bl_gt a.toList b.toList
      rw [h1,h2,Bool.false_or] at d
      have d':=congrArg (fun b=>!b) d
      simp only [Bool.not_not] at d'
      rw [h2] at hgt
      go_enter Tryz.func103,Tryz.ntmps103
      go_wp2
      go_ret
      exact ⟨rfl,rfl⟩
def ckP (k : Int) (t : List UInt8) (k2 : Int) (t2 : List UInt8) : Int:=if k < k2 then -1 else if k > k2 then 1 else Lib.compareBytes t t2
set_option maxRecDepth 100000 in
set_option maxHeartbeats 8000000 in
theorem tb0 (k : Int) (t : ByteArray) (k2 : Int) (t2 : ByteArray) (w : World) : Calls Tryz.prog 116 #[.agg #[.int .i64 k,.string t],.agg #[.int .i64 k2,.string t2]] w fun e w'=>e = .returned (.int .i64 (ckP k t.data.toList k2 t2.data.toList)) ∧ Below w.heap.size w w':=by
  have H2:=zH (ta4 ((Below.refl w.heap.size w).alloc (Nat.le_refl _) (.cells #[.int .i64 k,.string t] 73)) (.cells #[.int .i64 k2,.string t2] 73))
  have hC:=Tryz.cmp_Compare_int k k2
  have hS:=Tryz.strings_Compare t t2
  have hcm : ckP k t.data.toList k2 t2.data.toList = if Lib.compareInt k k2 = 0 then Lib.compareBytes t.data.toList t2.data.toList else Lib.compareInt k k2:=by
    unfold ckP Lib.compareInt
    split
    · simp
    · split <;> simp
  rw [hcm]
  clear hcm
  by_cases h0 : Lib.compareInt k k2 = 0
  · rw [if_pos h0]
    rw [h0] at hC
    clear h0
    generalize Lib.compareBytes t.data.toList t2.data.toList = c at *
    go_enter Tryz.func116,Tryz.ntmps116
    go_wp2_with (first
      | (go_at_call 127;refine (hC _).mono ?_;rintro e w1 ⟨rfl,rfl⟩)
      | (go_at_call 122;refine (hS _).mono ?_;rintro e w1 ⟨rfl,rfl⟩))
    go_ret
    exact ⟨rfl,H2.out⟩
  · rw [if_neg h0]
    have d0 : (Lib.compareInt k k2 != 0) = true:=by simpa using h0
    clear h0
    generalize Lib.compareInt k k2 = c at *
    go_enter Tryz.func116,Tryz.ntmps116
    go_wp2_with (first
      | (go_at_call 127;refine (hC _).mono ?_;rintro e w1 ⟨rfl,rfl⟩))
    go_ret
    exact ⟨rfl,H2.out⟩
set_option maxRecDepth 100000 in
set_option maxHeartbeats 8000000 in
theorem t9c (k : Int) (t : ByteArray) (k2 : Int) (t2 : ByteArray) (w : World) : Calls Tryz.prog 83 #[.agg #[.int .i64 k,.string t],.agg #[.int .i64 k2,.string t2]] w fun e w'=>e = .returned (.int .i64 (ckP k t.data.toList k2 t2.data.toList)) ∧ Below w.heap.size w w':=by
  have H2:=zH (ta4 ((Below.refl w.heap.size w).alloc (Nat.le_refl _) (.cells #[.int .i64 k,.string t] 73)) (.cells #[.int .i64 k2,.string t2] 73))
  have hC:=tc0 k k2
  have hS:=td6 t t2
  by_cases h0 : k = k2
  · have hcm : ckP k t.data.toList k2 t2.data.toList = Lib.compareBytes t.data.toList t2.data.toList:=by
      unfold ckP;rw [if_neg (by omega),if_neg (by omega)]
    rw [hcm]
    have d0 : (k != k2) = false:=by simpa using h0
    clear hcm h0
    generalize Lib.compareBytes t.data.toList t2.data.toList = c at *
    go_enter Tryz.func83,Tryz.ntmps83
    go_wp2_with (first
      | (go_at_call 103;refine (hS _).mono ?_;rintro e w1 ⟨rfl,rfl⟩))
    go_ret
    exact ⟨rfl,H2.out⟩
  · have hcm : ckP k t.data.toList k2 t2.data.toList = Lib.compareInt k k2:=by
      unfold ckP Lib.compareInt
      split
      · rfl
      · rw [if_pos (by omega),if_pos (by omega)]
    rw [hcm]
    have d0 : (k != k2) = true:=by simpa using h0
    clear hcm h0
    generalize Lib.compareInt k k2 = c at *
    go_enter Tryz.func83,Tryz.ntmps83
    go_wp2_with (first
      | (go_at_call 102;refine (hC _).mono ?_;rintro e w1 ⟨rfl,rfl⟩))
    go_ret
    exact ⟨rfl,H2.out⟩
theorem t7j : ∀ a b : List UInt8,lexB a b = Lib.compareBytes a b
  | [],[]=>rfl
  | [],_ :: _=>rfl
  | _ :: _,[]=>rfl
  | x :: r,y :: s=>by simp only [lexB,Lib.compareBytes,t7j r s]
theorem tet (x y : Int) : ordI x y = Lib.compareInt x y:=by unfold ordI Lib.compareInt;(repeat' split) <;> first | rfl | omega
theorem teu (a b : KK) : cmpK a b = ckP a.kind a.text.data.toList b.kind b.text.data.toList:=by
  unfold cmpK nz ordI ckP ordS
  rw [t7j]
  (repeat' split) <;> first | rfl | omega
theorem taf (a b : KK) (w : World) : Calls Tryz.prog 116 #[.agg #[.int .i64 a.kind,.string a.text],.agg #[.int .i64 b.kind,.string b.text]] w fun e w'=>e = .returned (.int .i64 (cmpK a b)) ∧ Below w.heap.size w w':=by
  rw [teu];exact tb0 a.kind a.text b.kind b.text w
theorem t9d (a b : KK) (w : World) : Calls Tryz.prog 83 #[.agg #[.int .i64 a.kind,.string a.text],.agg #[.int .i64 b.kind,.string b.text]] w fun e w'=>e = .returned (.int .i64 (cmpK a b)) ∧ Below w.heap.size w w':=by
  rw [teu];exact t9c a.kind a.text b.kind b.text w
theorem tag (a b : ByteArray) (w : World) : Calls Tryz.prog 122 #[.string a,.string b] w fun e w'=>e = .returned (.int .i64 (ordS a b)) ∧ w' = w:=by
  unfold ordS;rw [t7j];exact Tryz.strings_Compare a b w
theorem tc1 (a b : ByteArray) (w : World) : Calls Tryz.prog 103 #[.string a,.string b] w fun e w'=>e = .returned (.int .i64 (ordS a b)) ∧ w' = w:=by
  unfold ordS;rw [t7j];exact td6 a b w
theorem tb1 (x y : Int) (w : World) : Calls Tryz.prog 102 #[.int .i64 x,.int .i64 y] w fun e w'=>e = .returned (.int .i64 (ordI x y)) ∧ w' = w:=by
  rw [tet];exact tc0 x y w
theorem t6o (x y : Int) (w : World) : Calls Tryz.prog 127 #[.int .i64 x,.int .i64 y] w fun e w'=>e = .returned (.int .i64 (ordI x y)) ∧ w' = w:=by
  rw [tet];exact Tryz.cmp_Compare_int x y w
set_option maxRecDepth 100000 in
theorem t9e (x : Int) (w : World) : Calls Tryz.prog 140 #[.int .i64 x] w fun e w'=>e = .returned (.bool false) ∧ w' = w:=by
  go_enter Tryz.func140,Tryz.ntmps140
  go_wp2
  go_ret
  exact ⟨by simp,rfl⟩
set_option maxRecDepth 100000 in
set_option maxHeartbeats 4000000 in
theorem tgh (x y : Int) (w : World) : Calls Tryz.prog 135 #[.int .i64 x,.int .i64 y] w fun e w'=>e = .returned (.int .i64 (ordI x y)) ∧ w' = w:=by
  unfold ordI
  by_cases h1 : x < y
  · rw [if_pos h1]
    go_enter Tryz.func135,Tryz.ntmps135
    go_wp2_with (go_at_call 140;refine (t9e _ _).mono ?_;rintro e w1 ⟨rfl,rfl⟩)
    go_ret
    exact ⟨rfl,rfl⟩
  · rw [if_neg h1]
    by_cases h2 : y < x
    · rw [if_pos h2]
      go_enter Tryz.func135,Tryz.ntmps135
      go_wp2_with (go_at_call 140;refine (t9e _ _).mono ?_;rintro e w1 ⟨rfl,rfl⟩)
      go_ret
      exact ⟨rfl,rfl⟩
    · rw [if_neg h2]
      go_enter Tryz.func135,Tryz.ntmps135
      go_wp2_with (go_at_call 140;refine (t9e _ _).mono ?_;rintro e w1 ⟨rfl,rfl⟩)
      go_ret
      exact ⟨rfl,rfl⟩
set_option maxRecDepth 100000 in
theorem t5r (x y : Int) (w : World) : Calls Tryz.prog 101 #[.int .i64 x,.int .i64 y] w fun e w'=>e = .returned (.int .i64 (ordI x y)) ∧ w' = w:=by
  have h:=tb1 x y
  go_enter Tryz.func101,Tryz.ntmps101
  go_wp2_with (go_at_call 102;refine (h _).mono ?_;rintro e w1 ⟨rfl,rfl⟩)
  go_ret
  exact ⟨rfl,rfl⟩
end Go.Proofs.YtjgldaaofdpcgaaGreat
