/- Walks and plain facts for the laws of membership, for all values and types that the heap holds (texts Nc Shp V0 K1 V1). -/
import Derived.Below
import Derived.Shelf.Small.Strs
import Derived.Shelf.Small.Wraps
import Derived.Test.YtjgldaaofdpcgaaGreatProg
import Derived.Test.YtjgldaaofdpcgaaGreatW03
import Derived.Test.YtjgldaaofdpcgaaGreatW04
set_option linter.unusedVariables false
set_option linter.unusedSimpArgs false
namespace Go.Proofs.YtjgldaaofdpcgaaGreat
open Go.RowKit Go.Ident

set_option maxRecDepth 100000 in
set_option maxHeartbeats 8000000 in
theorem t6s (k : Int) (s : ByteArray) (w : World) : Calls Tryz.prog 115 #[.agg #[.int .i64 k,.string s]] w fun e w'=>e = .returned (.bool (valK k s.data.toList)) ∧ Below w.heap.size w w':=by
  have hB:=(Below.refl w.heap.size w).alloc (Nat.le_refl _) (.cells #[.int .i64 k,.string s] 73)
  have HB:=zH hB;clear hB
  unfold valK
  by_cases h0 : k = 0
  · subst h0
    go_enter Tryz.func115,Tryz.ntmps115
    go_wp2_with (first
      | (go_at_call 86;refine (t8g s _).mono ?_;rintro e w1 ⟨rfl,rfl⟩))
    go_ret
    exact ⟨rfl,HB.out⟩
  rw [if_neg h0]
  have d0 : (k == 0) = false:=by simpa using h0
  by_cases h1 : k = 1
  · subst h1
    rw [if_pos rfl]
    have hl : s.data.toList.length = s.size:=by show _ = s.data.size;simp
    rw [hl]
    go_enter Tryz.func115,Tryz.ntmps115
    go_wp2
    go_ret
    refine ⟨?_,HB.out⟩
    by_cases hs : s.size ≤ 64
    · simp [hs];omega
    · simp [hs];omega
  rw [if_neg h1]
  have d1 : (k == 1) = false:=by simpa using h1
  go_enter Tryz.func115,Tryz.ntmps115
  go_wp2
  go_ret
  exact ⟨rfl,HB.out⟩
set_option maxRecDepth 100000 in
set_option maxHeartbeats 8000000 in
theorem t3v (k : Int) (s : ByteArray) (w : World) : Calls Tryz.prog 82 #[.agg #[.int .i64 k,.string s]] w fun e w'=>e = .returned (.bool (valK k s.data.toList)) ∧ Below w.heap.size w w':=by
  have hB:=(Below.refl w.heap.size w).alloc (Nat.le_refl _) (.cells #[.int .i64 k,.string s] 73)
  have HB:=zH hB;clear hB
  unfold valK
  by_cases h0 : k = 0
  · subst h0
    rw [if_pos rfl]
    have t:=isAtm s.data.toList
    cases hc : isAtm s.data.toList with
    | true =>
      have t:=t5b s;rw [hc] at t
      go_enter Tryz.func82,Tryz.ntmps82
      go_wp2_with (first
        | (go_at_call 97;refine (t _).mono ?_;rintro e w1 ⟨rfl,rfl⟩))
      go_ret
      exact ⟨rfl,HB.out⟩
    | false =>
      have t:=t5b s;rw [hc] at t
      go_enter Tryz.func82,Tryz.ntmps82
      go_wp2_with (first
        | (go_at_call 97;refine (t _).mono ?_;rintro e w1 ⟨rfl,rfl⟩))
      go_ret
      exact ⟨rfl,HB.out⟩
  rw [if_neg h0]
  have d0 : (k == 0) = false:=by simpa using h0
  by_cases h1 : k = 1
  · subst h1
    rw [if_pos rfl]
    have hl : s.data.toList.length = s.size:=by show _ = s.data.size;simp
    rw [hl]
    go_enter Tryz.func82,Tryz.ntmps82
    go_wp2
    go_ret
    refine ⟨?_,HB.out⟩
    by_cases hs : s.size ≤ 64
    · simp [hs];omega
    · simp [hs];omega
  rw [if_neg h1]
  have d1 : (k == 1) = false:=by simpa using h1
  go_enter Tryz.func82,Tryz.ntmps82
  go_wp2
  go_ret
  exact ⟨rfl,HB.out⟩
end Go.Proofs.YtjgldaaofdpcgaaGreat
namespace Go.Proofs
def Tryz.lays106_ren : Go.Shelf.Ren:=⟨fun | 106=>122 | 213=>128 | 265=>133 | n=>n,fun | 9=>9 | 3=>3 | n=>n,fun | n=>n⟩
theorem Tryz.lays106 : Go.Proofs.Lays.n106 Tryz.prog Tryz.lays106_ren:={
  mixed:=by kernel_rfl
  f106:=Tryz.func122.trans (congrArg some (by kernel_rfl))
  f213:=Tryz.func128.trans (congrArg some (by kernel_rfl))
  f265:=Tryz.func133.trans (congrArg some (by kernel_rfl))
  t3:=Tryz.underlying3
  a3:=Tryz.isAgg3
  z3:=Tryz.sizeOf3
  v3:=Tryz.zeroValue3
  t9:=Tryz.underlying9
  a9:=Tryz.isAgg9
  z9:=Tryz.sizeOf9
  v9:=Tryz.zeroValue9 }
open Go.RowKit in
theorem Tryz.strings_Compare (a b : ByteArray) (w : World) :
    Calls Tryz.prog 122 #[.string a,.string b] w fun e w'=>e = .returned (.int .i64 (Lib.compareBytes a.data.toList b.data.toList)) ∧ w' = w:=Any.strings_Compare Tryz.lays106 a b w
def Tryz.lays122_ren : Go.Shelf.Ren:=⟨fun | 122=>127 | 215=>132 | n=>n,fun | 3=>3 | 4=>4 | n=>n,fun | n=>n⟩
theorem Tryz.lays122 : Go.Proofs.Lays.n122 Tryz.prog Tryz.lays122_ren:={
  mixed:=by kernel_rfl
  f122:=Tryz.func127.trans (congrArg some (by kernel_rfl))
  f215:=Tryz.func132.trans (congrArg some (by kernel_rfl))
  t3:=Tryz.underlying3
  a3:=Tryz.isAgg3
  z3:=Tryz.sizeOf3
  v3:=Tryz.zeroValue3
  t4:=Tryz.underlying4
  a4:=Tryz.isAgg4
  z4:=Tryz.sizeOf4
  v4:=Tryz.zeroValue4 }
open Go.RowKit in
theorem Tryz.cmp_Compare_int (x y : Int) (w : World) :
    Calls Tryz.prog 127 #[.int .i64 x,.int .i64 y] w fun e w'=>e = .returned (.int .i64 (Lib.compareInt x y)) ∧ w' = w:=Any.cmp_Compare_int Tryz.lays122 x y w
end Go.Proofs
namespace Go.Proofs.YtjgldaaofdpcgaaGreat
open Go.Ident

structure KK where
  kind : Int
  text : ByteArray
  deriving DecidableEq
mutual
inductive VV where
  | mk (kind num : Int) (text : ByteArray) (kids : List VV) (keys : List KK) (ents : List EE) (labels : List ByteArray)
inductive EE where
  | mk (args : List VV) (fails : Bool) (res : VV)
end
def VV.kind : VV → Int | .mk k _ _ _ _ _ _=>k
def VV.num : VV → Int | .mk _ n _ _ _ _ _=>n
def VV.text : VV → ByteArray | .mk _ _ t _ _ _ _=>t
def VV.kids : VV → List VV | .mk _ _ _ l _ _ _=>l
def VV.keys : VV → List KK | .mk _ _ _ _ l _ _=>l
def VV.ents : VV → List EE | .mk _ _ _ _ _ l _=>l
def VV.labels : VV → List ByteArray | .mk _ _ _ _ _ _ l=>l
def EE.args : EE → List VV | .mk a _ _=>a
def EE.fails : EE → Bool | .mk _ f _=>f
def EE.res : EE → VV | .mk _ _ r=>r
def t0u : ByteArray:=⟨#[]⟩
def zeroV : VV:=.mk 0 0 t0u [] [] [] []
mutual
def VV.ht : VV → Nat
  | .mk _ _ _ kids _ ents _=>max (htVs kids) (htEs ents) + 1
def EE.ht : EE → Nat
  | .mk args _ res=>max (htVs args) res.ht
def htVs : List VV → Nat
  | []=>0
  | x :: r=>max x.ht (htVs r)
def htEs : List EE → Nat
  | []=>0
  | x :: r=>max x.ht (htEs r)
end
theorem taf : ∀ {l : List VV} {x : VV},x ∈ l → x.ht ≤ htVs l
  | y :: r,x,h=>by
    rw [htVs]
    rcases List.mem_cons.1 h with rfl | h
    · omega
    · have:=taf h;omega
theorem td9 : ∀ {l : List EE} {x : EE},x ∈ l → x.ht ≤ htEs l
  | y :: r,x,h=>by
    rw [htEs]
    rcases List.mem_cons.1 h with rfl | h
    · omega
    · have:=td9 h;omega
theorem t3z {v x : VV} (h : x ∈ v.kids) : x.ht < v.ht:=by
  cases v with | mk k n t kids keys ents labels =>
  have:=taf (show x ∈ kids from h)
  rw [VV.ht];omega
theorem t4t {v : VV} {e : EE} (h : e ∈ v.ents) : e.ht < v.ht:=by
  cases v with | mk k n t kids keys ents labels =>
  have:=td9 (show e ∈ ents from h)
  rw [VV.ht];omega
theorem t4a {e : EE} {x : VV} (h : x ∈ e.args) : x.ht ≤ e.ht:=by
  cases e with | mk args f res =>
  have:=taf (show x ∈ args from h)
  rw [EE.ht];omega
theorem t4b (e : EE) : e.res.ht ≤ e.ht:=by
  cases e with | mk args f res =>
  show res.ht ≤ _
  rw [EE.ht];omega
theorem t4u (v : VV) : 0 < v.ht:=by cases v;rw [VV.ht];omega
def ordI (a b : Int) : Int:=if a < b then -1 else if b < a then 1 else 0
def nz (a b : Int) : Int:=if a = 0 then b else a
def lexL {α : Type} (f : α → α → Int) : List α → List α → Int
  | x :: r,y :: s=>nz (f x y) (lexL f r s)
  | _,_=>0
def cmpL {α : Type} (f : α → α → Int) (a b : List α) : Int:=nz (ordI a.length b.length) (lexL f a b)
def lexB : List UInt8 → List UInt8 → Int
  | [],[]=>0
  | [],_ :: _=>-1
  | _ :: _,[]=>1
  | x :: r,y :: s=>if x < y then -1 else if y < x then 1 else lexB r s
def ordS (a b : ByteArray) : Int:=lexB a.data.toList b.data.toList
def cmpK (a b : KK) : Int:=nz (ordI a.kind b.kind) (ordS a.text b.text)
mutual
def cmpV : VV → VV → Int
  | .mk k n t kids keys ents labels,b =>
    nz (ordI k b.kind) (nz (ordI n b.num) (nz (ordS t b.text) (nz (cmpL cmpK keys b.keys) (nz (nz (ordI kids.length b.kids.length) (lexVs kids b.kids)) (nz (nz (ordI ents.length b.ents.length) (lexEs ents b.ents)) (cmpL ordS labels b.labels))))))
def cmpE : EE → EE → Int
  | .mk args f res,b=>nz (nz (ordI args.length b.args.length) (lexVs args b.args)) (nz (if f = b.fails then 0 else if f then -1 else 1) (cmpV res b.res))
def lexVs : List VV → List VV → Int
  | x :: r,y :: s=>nz (cmpV x y) (lexVs r s)
  | [],_=>0
  | _ :: _,[]=>0
def lexEs : List EE → List EE → Int
  | x :: r,y :: s=>nz (cmpE x y) (lexEs r s)
  | [],_=>0
  | _ :: _,[]=>0
end
theorem tag : ∀ a b,lexVs a b = lexL cmpV a b
  | [],_=>by rw [lexVs,lexL];simp
  | _ :: _,[]=>by rw [lexVs,lexL];simp
  | x :: r,y :: s=>by rw [lexVs,lexL,tag r s]
theorem tda : ∀ a b,lexEs a b = lexL cmpE a b
  | [],_=>by rw [lexEs,lexL];simp
  | _ :: _,[]=>by rw [lexEs,lexL];simp
  | x :: r,y :: s=>by rw [lexEs,lexL,tda r s]
theorem t9p (a b : VV) : cmpV a b = nz (ordI a.kind b.kind) (nz (ordI a.num b.num) (nz (ordS a.text b.text) (nz (cmpL cmpK a.keys b.keys) (nz (cmpL cmpV a.kids b.kids) (nz (cmpL cmpE a.ents b.ents) (cmpL ordS a.labels b.labels)))))):=by
  cases a with | mk k n t kids keys ents labels =>
  rw [cmpV,tag,tda];rfl
theorem t9q (a b : EE) : cmpE a b = nz (cmpL cmpV a.args b.args) (nz (if a.fails = b.fails then 0 else if a.fails then -1 else 1) (cmpV a.res b.res)):=by
  cases a with | mk args f res =>
  rw [cmpE,tag];rfl
def ascL {α : Type} (f : α → α → Int) : List α → Bool
  | x :: y :: r=>decide (f x y < 0) && ascL f (y :: r)
  | _=>true
def t2e (k : Int) : Bool:=decide (k = 1) || decide (k = 4) || decide (k = 9)
def t1x (k : Int) : Bool:=decide (k = 2) || decide (k = 3)
def t2a (k : Int) : Bool:=decide (k = 6) || decide (k = 7) || decide (k = 8)
def entOk (num : Int) (e : EE) : Bool:=decide ((e.args.length : Int) = num) && (!e.fails || decide (cmpV e.res zeroV = 0))
def t5k (l : List VV) : Bool:=match l[1]? with | some t=>decide (t.kind = 5) || decide (t.kind = 7) | none=>false
def nodeV (v : VV) : Bool :=
  (decide (1 ≤ v.kind) && decide (v.kind ≤ 9)) && (ascL ordS v.labels && v.labels.all fun s=>isVrb s.data.toList) &&
  ((t2e v.kind || decide (v.num = 0)) && (t1x v.kind || decide (v.text.size = 0)) && (t2a v.kind || v.kids.isEmpty) && (decide (v.kind = 8) || v.keys.isEmpty) && (decide (v.kind = 9) || v.ents.isEmpty)) &&
  (if v.kind = 2 then decide (v.text.size ≤ 64) else if v.kind = 3 then isAtm v.text.data.toList else if v.kind = 4 then decide (0 ≤ v.num) else if v.kind = 6 then decide (v.kids.length ≤ 4)
   else if v.kind = 7 then decide (v.kids.length = 2) && t5k v.kids
   else if v.kind = 8 then decide (v.keys.length = v.kids.length) && (ascL cmpK v.keys && v.keys.all fun k=>valK k.kind k.text.data.toList)
   else if v.kind = 9 then decide (0 ≤ v.num) && decide (v.num ≤ 4) && (ascL cmpE v.ents && v.ents.all (entOk v.num)) else true)
mutual
def VV.valid : VV → Bool
  | .mk k n t kids keys ents labels=>nodeV (.mk k n t kids keys ents labels) && (validVs kids && validEs ents)
def EE.validIn : EE → Bool
  | .mk args f res=>validVs args && (f || res.valid)
def validVs : List VV → Bool
  | []=>true
  | x :: r=>x.valid && validVs r
def validEs : List EE → Bool
  | []=>true
  | x :: r=>x.validIn && validEs r
end
theorem t8h : ∀ l,validVs l = l.all VV.valid
  | []=>by rw [validVs];rfl
  | x :: r=>by rw [validVs,t8h r];rfl
theorem tay : ∀ l,validEs l = l.all EE.validIn
  | []=>by rw [validEs];rfl
  | x :: r=>by rw [validEs,tay r];rfl
theorem t5r (v : VV) : v.valid = (nodeV v && (v.kids.all VV.valid && v.ents.all EE.validIn)):=by
  cases v with | mk k n t kids keys ents labels=>rw [VV.valid,t8h,tay];rfl
theorem t8i (e : EE) : e.validIn = (e.args.all VV.valid && (e.fails || e.res.valid)):=by
  cases e with | mk a f r=>rw [EE.validIn,t8h];rfl
end Go.Proofs.YtjgldaaofdpcgaaGreat
namespace Go.Proofs.YtjgldaaofdpcgaaGreat
open Go.RowKit Go.Ident

theorem tes (s : ByteArray) : s.data.toList = s.toList:=(ByteArray.toList_eq s).symm
theorem ta5 {w a : World} (h : Below w.heap.size w a) (o : Obj) : Below w.heap.size w (a.alloc o):=h.alloc h.size o
theorem tgb (a : List UInt8) : ∀ b,Lib.compareBytes a b = if Op.bytesLess a b then -1 else if Op.bytesLess b a then 1 else 0:=by
  induction a with
  | nil=>intro b;cases b <;> simp [Lib.compareBytes,Op.bytesLess]
  | cons x r ih =>
    intro b
    cases b with
    | nil=>simp [Lib.compareBytes,Op.bytesLess]
    | cons y q =>
      simp only [Lib.compareBytes,Op.bytesLess]
      by_cases h1 : x < y
      · simp [h1]
      · by_cases h2 : y < x
        · have hne : x ≠ y:=by rintro rfl;exact h1 h2
          simp [h1,h2,hne]
        · have he : x = y:=UInt8.le_antisymm (UInt8.not_lt.1 h2) (UInt8.not_lt.1 h1)
          subst he
          simp [h1,ih]
theorem bl_gt (a : List UInt8) : ∀ b,(!(Op.bytesLess a b || a == b)) = Op.bytesLess b a:=by
  induction a with
  | nil=>intro b;cases b <;> simp [Op.bytesLess]
  | cons x r ih =>
    intro b
    cases b with
    | nil=>simp [Op.bytesLess]
    | cons y q =>
      simp only [Op.bytesLess]
      by_cases h1 : x < y
      · have h2 : ¬ y < x:=fun h=>by rw [UInt8.lt_iff_toNat_lt] at h h1;omega
        have hne : y ≠ x:=by rintro rfl;exact h2 h1
        simp [h1,h2,hne]
      · by_cases h2 : y < x
        · have hne : x ≠ y:=by rintro rfl;exact h1 h2
          simp [h1,h2,hne]
        · have he : x = y:=UInt8.le_antisymm (UInt8.not_lt.1 h2) (UInt8.not_lt.1 h1)
          subst he
          simpa [h1] using ih q
theorem tbp (w : World) (a b : ByteArray) : (binOp .gtr 9 (.string a) (.string b)).run Tryz.prog w = .ok (.bool (Op.bytesLess b.toList a.toList)) w:=by
  rw [← bl_gt]
  simp [binOp,Op.stringOp]
set_option maxRecDepth 100000 in
theorem tbz (x y : Int) (w : World) : Calls Tryz.prog 102 #[.int .i64 x,.int .i64 y] w fun e w'=>e = .returned (.int .i64 (Lib.compareInt x y)) ∧ w' = w:=by
  unfold Lib.compareInt
  by_cases h1 : x < y
  · rw [if_pos h1]
    go_enter Tryz.func102,Tryz.ntmps102
    go_wp2
    go_ret
    exact ⟨rfl,rfl⟩
  · rw [if_neg h1]
    by_cases h2 : x > y
    · rw [if_pos h2]
      go_enter Tryz.func102,Tryz.ntmps102
      go_wp2
      go_ret
      exact ⟨rfl,rfl⟩
    · rw [if_neg h2]
      go_enter Tryz.func102,Tryz.ntmps102
      go_wp2
      go_ret
      exact ⟨rfl,rfl⟩
set_option maxRecDepth 100000 in
theorem tdb (a b : ByteArray) (w : World) : Calls Tryz.prog 103 #[.string a,.string b] w fun e w'=>e = .returned (.int .i64 (Lib.compareBytes a.data.toList b.data.toList)) ∧ w' = w:=by
  have hgt:=tbp (a:=a) (b:=b)
  rw [tgb,tes,tes]
  cases h1 : Op.bytesLess a.toList b.toList with
  | true =>
    go_enter Tryz.func103,Tryz.ntmps103
    go_wp2
    go_ret
    exact ⟨rfl,rfl⟩
  | false =>
    cases h2 : Op.bytesLess b.toList a.toList with
    | true =>
      have d:=bl_gt a.toList b.toList
      rw [h1,h2,Bool.false_or] at d
      have d':=congrArg (fun b=>!b) d
      simp only [Bool.not_not] at d'
      rw [h2] at hgt
      go_enter Tryz.func103,Tryz.ntmps103
      go_wp2
      go_ret
      exact ⟨rfl,rfl⟩
    | false =>
      have d:=bl_gt a.toList b.toList
      rw [h1,h2,Bool.false_or] at d
      have d':=congrArg (fun b=>!b) d
      simp only [Bool.not_not] at d'
      rw [h2] at hgt
      go_enter Tryz.func103,Tryz.ntmps103
      go_wp2
      go_ret
      exact ⟨rfl,rfl⟩
def ckP (k : Int) (t : List UInt8) (k2 : Int) (t2 : List UInt8) : Int:=if k < k2 then -1 else if k > k2 then 1 else Lib.compareBytes t t2
set_option maxRecDepth 100000 in
set_option maxHeartbeats 8000000 in
theorem taz (k : Int) (t : ByteArray) (k2 : Int) (t2 : ByteArray) (w : World) : Calls Tryz.prog 116 #[.agg #[.int .i64 k,.string t],.agg #[.int .i64 k2,.string t2]] w fun e w'=>e = .returned (.int .i64 (ckP k t.data.toList k2 t2.data.toList)) ∧ Below w.heap.size w w':=by
  have H2:=zH (ta5 ((Below.refl w.heap.size w).alloc (Nat.le_refl _) (.cells #[.int .i64 k,.string t] 73)) (.cells #[.int .i64 k2,.string t2] 73))
  have hC:=Tryz.cmp_Compare_int k k2
  have hS:=Tryz.strings_Compare t t2
  have hcm : ckP k t.data.toList k2 t2.data.toList = if Lib.compareInt k k2 = 0 then Lib.compareBytes t.data.toList t2.data.toList else Lib.compareInt k k2:=by
    unfold ckP Lib.compareInt
    split
    · simp
    · split <;> simp
  rw [hcm]
  clear hcm
  by_cases h0 : Lib.compareInt k k2 = 0
  · rw [if_pos h0]
    rw [h0] at hC
    clear h0
    generalize Lib.compareBytes t.data.toList t2.data.toList = c at *
    go_enter Tryz.func116,Tryz.ntmps116
    go_wp2_with (first
      | (go_at_call 127;refine (hC _).mono ?_;rintro e w1 ⟨rfl,rfl⟩)
      | (go_at_call 122;refine (hS _).mono ?_;rintro e w1 ⟨rfl,rfl⟩))
    go_ret
    exact ⟨rfl,H2.out⟩
  · rw [if_neg h0]
    have d0 : (Lib.compareInt k k2 != 0) = true:=by simpa using h0
    clear h0
    generalize Lib.compareInt k k2 = c at *
    go_enter Tryz.func116,Tryz.ntmps116
    go_wp2_with (first
      | (go_at_call 127;refine (hC _).mono ?_;rintro e w1 ⟨rfl,rfl⟩))
    go_ret
    exact ⟨rfl,H2.out⟩
set_option maxRecDepth 100000 in
set_option maxHeartbeats 8000000 in
theorem t9c (k : Int) (t : ByteArray) (k2 : Int) (t2 : ByteArray) (w : World) : Calls Tryz.prog 83 #[.agg #[.int .i64 k,.string t],.agg #[.int .i64 k2,.string t2]] w fun e w'=>e = .returned (.int .i64 (ckP k t.data.toList k2 t2.data.toList)) ∧ Below w.heap.size w w':=by
  have H2:=zH (ta5 ((Below.refl w.heap.size w).alloc (Nat.le_refl _) (.cells #[.int .i64 k,.string t] 73)) (.cells #[.int .i64 k2,.string t2] 73))
  have hC:=tbz k k2
  have hS:=tdb t t2
  by_cases h0 : k = k2
  · have hcm : ckP k t.data.toList k2 t2.data.toList = Lib.compareBytes t.data.toList t2.data.toList:=by
      unfold ckP;rw [if_neg (by omega),if_neg (by omega)]
    rw [hcm]
    have d0 : (k != k2) = false:=by simpa using h0
    clear hcm h0
    generalize Lib.compareBytes t.data.toList t2.data.toList = c at *
    go_enter Tryz.func83,Tryz.ntmps83
    go_wp2_with (first
      | (go_at_call 103;refine (hS _).mono ?_;rintro e w1 ⟨rfl,rfl⟩))
    go_ret
    exact ⟨rfl,H2.out⟩
  · have hcm : ckP k t.data.toList k2 t2.data.toList = Lib.compareInt k k2:=by
      unfold ckP Lib.compareInt
      split
      · rfl
      · rw [if_pos (by omega),if_pos (by omega)]
    rw [hcm]
    have d0 : (k != k2) = true:=by simpa using h0
    clear hcm h0
    generalize Lib.compareInt k k2 = c at *
    go_enter Tryz.func83,Tryz.ntmps83
    go_wp2_with (first
      | (go_at_call 102;refine (hC _).mono ?_;rintro e w1 ⟨rfl,rfl⟩))
    go_ret
    exact ⟨rfl,H2.out⟩
theorem t7l : ∀ a b : List UInt8,lexB a b = Lib.compareBytes a b
  | [],[]=>rfl
  | [],_ :: _=>rfl
  | _ :: _,[]=>rfl
  | x :: r,y :: s=>by simp only [lexB,Lib.compareBytes,t7l r s]
theorem tet (x y : Int) : ordI x y = Lib.compareInt x y:=by unfold ordI Lib.compareInt;(repeat' split) <;> first | rfl | omega
theorem teu (a b : KK) : cmpK a b = ckP a.kind a.text.data.toList b.kind b.text.data.toList:=by
  unfold cmpK nz ordI ckP ordS
  rw [t7l]
  (repeat' split) <;> first | rfl | omega
theorem tah (a b : KK) (w : World) : Calls Tryz.prog 116 #[.agg #[.int .i64 a.kind,.string a.text],.agg #[.int .i64 b.kind,.string b.text]] w fun e w'=>e = .returned (.int .i64 (cmpK a b)) ∧ Below w.heap.size w w':=by
  rw [teu];exact taz a.kind a.text b.kind b.text w
theorem t6z (a b : KK) (w : World) : Calls Tryz.prog 83 #[.agg #[.int .i64 a.kind,.string a.text],.agg #[.int .i64 b.kind,.string b.text]] w fun e w'=>e = .returned (.int .i64 (cmpK a b)) ∧ Below w.heap.size w w':=by
  rw [teu];exact t9c a.kind a.text b.kind b.text w
theorem tai (a b : ByteArray) (w : World) : Calls Tryz.prog 122 #[.string a,.string b] w fun e w'=>e = .returned (.int .i64 (ordS a b)) ∧ w' = w:=by
  unfold ordS;rw [t7l];exact Tryz.strings_Compare a b w
theorem tc0 (a b : ByteArray) (w : World) : Calls Tryz.prog 103 #[.string a,.string b] w fun e w'=>e = .returned (.int .i64 (ordS a b)) ∧ w' = w:=by
  unfold ordS;rw [t7l];exact tdb a b w
theorem tb0 (x y : Int) (w : World) : Calls Tryz.prog 102 #[.int .i64 x,.int .i64 y] w fun e w'=>e = .returned (.int .i64 (ordI x y)) ∧ w' = w:=by
  rw [tet];exact tbz x y w
theorem t6t (x y : Int) (w : World) : Calls Tryz.prog 127 #[.int .i64 x,.int .i64 y] w fun e w'=>e = .returned (.int .i64 (ordI x y)) ∧ w' = w:=by
  rw [tet];exact Tryz.cmp_Compare_int x y w
set_option maxRecDepth 100000 in
theorem t9d (x : Int) (w : World) : Calls Tryz.prog 140 #[.int .i64 x] w fun e w'=>e = .returned (.bool false) ∧ w' = w:=by
  go_enter Tryz.func140,Tryz.ntmps140
  go_wp2
  go_ret
  exact ⟨by simp,rfl⟩
set_option maxRecDepth 100000 in
set_option maxHeartbeats 4000000 in
theorem tgc (x y : Int) (w : World) : Calls Tryz.prog 135 #[.int .i64 x,.int .i64 y] w fun e w'=>e = .returned (.int .i64 (ordI x y)) ∧ w' = w:=by
  unfold ordI
  by_cases h1 : x < y
  · rw [if_pos h1]
    go_enter Tryz.func135,Tryz.ntmps135
    go_wp2_with (go_at_call 140;refine (t9d _ _).mono ?_;rintro e w1 ⟨rfl,rfl⟩)
    go_ret
    exact ⟨rfl,rfl⟩
  · rw [if_neg h1]
    by_cases h2 : y < x
    · rw [if_pos h2]
      go_enter Tryz.func135,Tryz.ntmps135
      go_wp2_with (go_at_call 140;refine (t9d _ _).mono ?_;rintro e w1 ⟨rfl,rfl⟩)
      go_ret
      exact ⟨rfl,rfl⟩
    · rw [if_neg h2]
      go_enter Tryz.func135,Tryz.ntmps135
      go_wp2_with (go_at_call 140;refine (t9d _ _).mono ?_;rintro e w1 ⟨rfl,rfl⟩)
      go_ret
      exact ⟨rfl,rfl⟩
set_option maxRecDepth 100000 in
theorem t5z (x y : Int) (w : World) : Calls Tryz.prog 101 #[.int .i64 x,.int .i64 y] w fun e w'=>e = .returned (.int .i64 (ordI x y)) ∧ w' = w:=by
  have h:=tb0 x y
  go_enter Tryz.func101,Tryz.ntmps101
  go_wp2_with (go_at_call 102;refine (h _).mono ?_;rintro e w1 ⟨rfl,rfl⟩)
  go_ret
  exact ⟨rfl,rfl⟩
end Go.Proofs.YtjgldaaofdpcgaaGreat
namespace Go.Proofs.YtjgldaaofdpcgaaGreat
open Go.Ident

structure FF where
  key : KK
  node : Int
  opt : Bool
structure TN where
  kind : Int
  lo : Int
  hi : Int
  text : ByteArray
  kids : List Int
  fields : List FF
  rest0 : Int
  rest1 : Int
structure Ty where
  nodes : List TN
  root : Int
def zeroN : TN:=⟨0,0,0,t0u,[],[],0,0⟩
def Ty.len (T : Ty) : Nat:=T.nodes.length
def Ty.node (T : Ty) (k : Int) : TN:=T.nodes.getD k.toNat zeroN
def Ty.has (T : Ty) (k : Int) : Bool:=decide (0 ≤ k) && decide (k < (T.len : Int))
def TN.bool (n : TN) : Bool:=decide (n.kind = 16) || decide (n.kind = 17) || decide (n.kind = 18)
theorem Ty.node_at {T : Ty} {i : Nat} (h : i < T.nodes.length) : T.node (i : Int) = T.nodes[i]:=by simp [Ty.node,h]
theorem has_iff {T : Ty} {k : Int} : T.has k = true ↔ 0 ≤ k ∧ k < (T.len : Int):=by simp [Ty.has]
def kidsK (k : Int) : Bool:=decide (k = 10) || decide (k = 12) || decide (k = 14) || decide (k = 16) || decide (k = 17) || decide (k = 18)
def textK (k : Int) : Bool:=decide (k = 4) || decide (k = 6) || decide (k = 19)
def t1t (n : TN) : Bool :=
  (decide (n.kind = 3) || (decide (n.lo = 0) && decide (n.hi = 0))) && (textK n.kind || decide (n.text.size = 0)) && (kidsK n.kind || n.kids.isEmpty) &&
  (decide (n.kind = 13) || (n.fields.isEmpty && (decide (n.rest0 = 0) && decide (n.rest1 = 0))))
def t2g (l : List FF) : Bool:=ascL cmpK (l.map FF.key) && l.all fun f=>valK f.key.kind f.key.text.data.toList
def kindN (n : TN) : Bool :=
  if n.kind = 3 then decide (n.lo ≤ n.hi) else if n.kind = 4 then decide (n.text.size ≤ 64) else if n.kind = 6 then isAtm n.text.data.toList else if n.kind = 19 then isVrb n.text.data.toList
  else if n.kind = 10 then decide (n.kids.length ≤ 4) else if n.kind = 12 then decide (n.kids.length = 2) else if n.kind = 13 then t2g n.fields
  else if n.kind = 14 then decide (1 ≤ n.kids.length) && decide (n.kids.length ≤ 5) else if n.kind = 16 ∨ n.kind = 17 then decide (1 ≤ n.kids.length) else if n.kind = 18 then decide (n.kids.length = 1)
  else decide (1 ≤ n.kind) && decide (n.kind ≤ 15)
def t1u (n : TN) : List Int:=n.kids ++ (n.fields.map FF.node ++ if n.kind = 13 then [n.rest0,n.rest1] else [])
def nodeT (T : Ty) (n : TN) : Bool:=t1t n && kindN n && (t1u n).all T.has
def RkT (T : Ty) (rk : Nat → Nat) : Prop:=∀ i,i < T.len → (T.node (i : Nat)).bool = true → ∀ k ∈ (T.node (i : Nat)).kids,rk k.toNat < rk i
def Ctr (T : Ty) : Prop:=∃ rk,RkT T rk
structure WfT (T : Ty) : Prop where
  root : T.has T.root = true
  nodes : ∀ n ∈ T.nodes,nodeT T n = true
  ctr : Ctr T
def atN (n : TN) (k : KK) : Int :=
  match n.fields.find? fun f=>decide (f.key = k) with
  | some f=>f.node
  | none=>if k.kind = 0 then n.rest0 else n.rest1
def all2 (sub : VV → Int → Bool) (l : List VV) (ks : List Int) : Bool:=decide (l.length = ks.length) && (l.zip ks).all fun p=>sub p.1 p.2
def entA (sub : VV → Int → Bool) (ks : List Int) (e : EE) : Bool:=!all2 sub e.args (ks.take (ks.length - 1)) || (!e.fails && sub e.res (ks.getD (ks.length - 1) 0))
def mapA (sub : VV → Int → Bool) (v : VV) (n : TN) : Bool :=
  (n.fields.all fun f=>f.opt || v.keys.any fun k=>decide (k = f.key)) && (v.keys.zip v.kids).all fun p=>sub p.2 (atN n p.1)
def funA (sub : VV → Int → Bool) (v : VV) (n : TN) : Bool:=decide (v.num = (n.kids.length : Int) - 1) && v.ents.all (entA sub n.kids)
def t5s (k : Int) : Int:=if k = 5 then 2 else if k = 7 then 3 else if k = 8 then 4 else if k = 9 then 5 else if k = 11 then 6 else 9
def memS (sub : VV → Int → Bool) (v : VV) (same : Int → Bool) (n : TN) : Bool :=
  if n.kind = 2 then true else if n.kind = 3 then decide (v.kind = 1) && (decide (n.lo ≤ v.num) && decide (v.num ≤ n.hi))
  else if n.kind = 4 then decide (v.kind = 2) && decide (v.text = n.text) else if n.kind = 6 then decide (v.kind = 3) && decide (v.text = n.text)
  else if n.kind = 5 ∨ n.kind = 7 ∨ n.kind = 8 ∨ n.kind = 9 ∨ n.kind = 11 ∨ n.kind = 15 then decide (v.kind = t5s n.kind)
  else if n.kind = 10 then decide (v.kind = 6) && all2 sub v.kids n.kids else if n.kind = 12 then decide (v.kind = 7) && all2 sub v.kids n.kids
  else if n.kind = 13 then decide (v.kind = 8) && mapA sub v n else if n.kind = 14 then decide (v.kind = 9) && funA sub v n
  else if n.kind = 16 then n.kids.any same else if n.kind = 17 then n.kids.all same else if n.kind = 18 then !same (n.kids.getD 0 0)
  else if n.kind = 19 then v.labels.any fun s=>decide (s = n.text) else false
def memB (T : Ty) (sub : VV → Int → Bool) (v : VV) : Nat → Int → Bool
  | 0,_=>false
  | f + 1,k=>memS sub v (memB T sub v f) (T.node k)
def memN (T : Ty) (F : Nat) : Nat → VV → Int → Bool
  | 0,_,_=>false
  | d + 1,v,k=>memB T (memN T F d) v F k
theorem t6u (l : List Nat) : ∀ b,b ≤ l.foldl max b ∧ ∀ x ∈ l,x ≤ l.foldl max b:=by
  induction l with
  | nil=>intro b;simp
  | cons y r ih =>
    intro b
    have:=ih (max b y)
    refine ⟨by simp only [List.foldl_cons];omega,fun x hx=>?_⟩
    rcases List.mem_cons.1 hx with rfl | hx
    · simp only [List.foldl_cons];omega
    · exact this.2 x hx
open Classical in
noncomputable def fuelT (T : Ty) : Nat:=if h : Ctr T then ((List.range T.len).map h.choose).foldl max 0 + 1 else 0
noncomputable def mem (T : Ty) (v : VV) (k : Int) : Bool:=memN T (fuelT T) v.ht v k
theorem fuelT_gt {T : Ty} (h : Ctr T) : ∃ rk,RkT T rk ∧ ∀ i,i < T.len → rk i < fuelT T:=by
  refine ⟨h.choose,h.choose_spec,fun i hi=>?_⟩
  unfold fuelT
  rw [dif_pos h]
  have:=(t6u ((List.range T.len).map h.choose) 0).2 (h.choose i) (List.mem_map.2 ⟨i,List.mem_range.2 hi,rfl⟩)
  omega
theorem tb1 {s t : VV → Int → Bool} {l : List VV} {ks : List Int} (h : ∀ x ∈ l,∀ k,s x k = t x k) : all2 s l ks = all2 t l ks:=by
  unfold all2
  congr 1
  rw [Bool.eq_iff_iff,List.all_eq_true,List.all_eq_true]
  refine ⟨fun g p hp=>?_,fun g p hp=>?_⟩
  · rw [← h p.1 (List.of_mem_zip hp).1];exact g p hp
  · rw [h p.1 (List.of_mem_zip hp).1];exact g p hp
theorem tfh {s t : VV → Int → Bool} {ks : List Int} {e : EE} (h1 : ∀ x ∈ e.args,∀ k,s x k = t x k) (h2 : ∀ k,s e.res k = t e.res k) : entA s ks e = entA t ks e:=by
  unfold entA;rw [tb1 h1,h2]
theorem t8j {s t : VV → Int → Bool} {v : VV} {a b : Int → Bool} {n : TN} (h : ∀ x,x.ht < v.ht → ∀ k,s x k = t x k) (h1 : n.bool = true → ∀ k ∈ n.kids,a k = b k) (h0 : n.kind = 18 → 0 < n.kids.length) : memS s v a n = memS t v b n:=by
  have e1 : all2 s v.kids n.kids = all2 t v.kids n.kids:=tb1 fun x hx=>h x (t3z hx)
  have e2 : mapA s v n = mapA t v n:=by
    unfold mapA
    congr 1
    rw [Bool.eq_iff_iff,List.all_eq_true,List.all_eq_true]
    refine ⟨fun g p hp=>?_,fun g p hp=>?_⟩
    · rw [← h p.2 (t3z (List.of_mem_zip hp).2)];exact g p hp
    · rw [h p.2 (t3z (List.of_mem_zip hp).2)];exact g p hp
  have e3 : funA s v n = funA t v n:=by
    unfold funA
    congr 1
    have key : ∀ e ∈ v.ents,entA s n.kids e = entA t n.kids e:=fun e he =>
      tfh (fun x hx=>h x (Nat.lt_of_le_of_lt (t4a hx) (t4t he))) (h _ (Nat.lt_of_le_of_lt (t4b e) (t4t he)))
    rw [Bool.eq_iff_iff,List.all_eq_true,List.all_eq_true]
    exact ⟨fun g p hp=>by rw [← key p hp];exact g p hp,fun g p hp=>by rw [key p hp];exact g p hp⟩
  have e4 : n.kind = 16 → n.kids.any a = n.kids.any b:=fun hk=>by
    have:=h1 (by simp [TN.bool,hk])
    rw [Bool.eq_iff_iff,List.any_eq_true,List.any_eq_true]
    exact ⟨fun ⟨x,hx,g⟩=>⟨x,hx,by rw [← this x hx];exact g⟩,fun ⟨x,hx,g⟩=>⟨x,hx,by rw [this x hx];exact g⟩⟩
  have e5 : n.kind = 17 → n.kids.all a = n.kids.all b:=fun hk=>by
    have:=h1 (by simp [TN.bool,hk])
    rw [Bool.eq_iff_iff,List.all_eq_true,List.all_eq_true]
    exact ⟨fun g x hx=>by rw [← this x hx];exact g x hx,fun g x hx=>by rw [this x hx];exact g x hx⟩
  have e6 : n.kind = 18 → a (n.kids.getD 0 0) = b (n.kids.getD 0 0):=fun hk=>by
    have hl:=h0 hk
    refine h1 (by simp [TN.bool,hk]) _ ?_
    rw [List.getD_eq_getElem?_getD,List.getElem?_eq_getElem hl]
    exact List.getElem_mem hl
  unfold memS
  rw [e1,e2,e3]
  by_cases c16 : n.kind = 16
  · simp [c16,e4 c16]
  by_cases c17 : n.kind = 17
  · simp [c17,e5 c17]
  by_cases c18 : n.kind = 18
  · have:=e6 c18
    simp [c18]
    simpa using this
  simp only [c16,c17,c18,if_false]
structure WfM (T : Ty) : Prop where
  one : ∀ i,i < T.len → (T.node (i : Nat)).kind = 18 → 0 < (T.node (i : Nat)).kids.length
  ctr : Ctr T
theorem Ty.node_cases (T : Ty) (k : Int) : (T.node k = zeroN) ∨ (k.toNat < T.len ∧ T.node k = T.node (k.toNat : Nat)):=by
  by_cases h : k.toNat < T.len
  · exact .inr ⟨h,rfl⟩
  · refine .inl ?_
    have : T.nodes[k.toNat]? = none:=by rw [List.getElem?_eq_none_iff];unfold Ty.len at h;omega
    simp [Ty.node,this]
theorem t5d (s : VV → Int → Bool) (v : VV) (a : Int → Bool) : memS s v a zeroN = false:=by simp [memS,zeroN]
theorem tdc {T : Ty} (H : WfM T) {s t : VV → Int → Bool} {v : VV} (h : ∀ x,x.ht < v.ht → ∀ k,s x k = t x k) : ∀ f k,memB T s v f k = memB T t v f k:=by
  intro f
  induction f with
  | zero=>intro k;rfl
  | succ f ih =>
    intro k
    show memS s v (memB T s v f) (T.node k) = memS t v (memB T t v f) (T.node k)
    rcases T.node_cases k with e | ⟨hi,e⟩
    · rw [e,t5d,t5d]
    · rw [e];exact t8j h (fun _ k _=>ih k) (H.one _ hi)
theorem tgd {T : Ty} (H : WfM T) {rk : Nat → Nat} (hr : RkT T rk) {s : VV → Int → Bool} {v : VV} : ∀ f g k,(k.toNat < T.len → rk k.toNat < f ∧ rk k.toNat < g) → 0 < f → 0 < g → memB T s v f k = memB T s v g k:=by
  intro f
  induction f with
  | zero=>intro g k _ h;omega
  | succ f ih =>
    intro g k hk _ hg
    obtain ⟨g,rfl⟩ : ∃ g',g = g' + 1:=⟨g - 1,by omega⟩
    show memS s v (memB T s v f) (T.node k) = memS s v (memB T s v g) (T.node k)
    rcases T.node_cases k with e | ⟨hi,e⟩
    · rw [e,t5d,t5d]
    · rw [e]
      obtain ⟨h1,h2⟩:=hk hi
      refine t8j (fun _ _ _=>rfl) (fun hb x hx=>?_) (H.one _ hi)
      have:=hr _ hi hb x hx
      exact ih g x (fun _=>⟨by omega,by omega⟩) (by omega) (by omega)
theorem tec {T : Ty} (H : WfM T) (F : Nat) : ∀ d e v k,v.ht ≤ d → v.ht ≤ e → memN T F d v k = memN T F e v k:=by
  intro d
  induction d with
  | zero=>intro e v k h;have:=t4u v;omega
  | succ d ih =>
    intro e v k h1 h2
    obtain ⟨e,rfl⟩ : ∃ e',e = e' + 1:=⟨e - 1,by have:=t4u v;omega⟩
    exact tdc H (fun x hx k=>ih e x k (by omega) (by omega)) F k
theorem tge {T : Ty} (h : Ctr T) : 0 < fuelT T:=by unfold fuelT;rw [dif_pos h];omega
theorem tdd {T : Ty} (H : WfM T) (v : VV) (k : Int) : mem T v k = memS (mem T) v (mem T v) (T.node k):=by
  obtain ⟨rk,hr,hlt⟩:=fuelT_gt H.ctr
  have hp:=t4u v
  have hF:=tge H.ctr
  have key : ∀ k,mem T v k = memB T (mem T) v (fuelT T) k:=fun k=>by
    unfold mem
    obtain ⟨d,hd⟩ : ∃ d,v.ht = d + 1:=⟨v.ht - 1,by omega⟩
    rw [hd]
    exact tdc H (fun x hx k=>tec H _ _ _ _ _ (by omega) (Nat.le_refl _)) _ _
  rw [key k]
  obtain ⟨F,hF2⟩ : ∃ F,fuelT T = F + 1:=⟨fuelT T - 1,by omega⟩
  have hk2 : memB T (mem T) v (F + 1) k = memS (mem T) v (memB T (mem T) v F) (T.node k):=rfl
  rw [hF2,hk2]
  rcases T.node_cases k with e | ⟨hi,e⟩
  · rw [e,t5d,t5d]
  · rw [e]
    refine t8j (fun _ _ _=>rfl) (fun hb x hx=>?_) (H.one _ hi)
    rw [key x]
    have h1:=hr _ hi hb x hx
    have h2:=hlt _ hi
    exact tgd H hr _ _ _ (fun h=>⟨by omega,hlt _ h⟩) (by omega) hF
theorem WfT.m {T : Ty} (h : WfT T) : WfM T:=by
  refine ⟨fun i hi hk=>?_,h.ctr⟩
  have h1:=h.nodes (T.node (i : Nat)) (by rw [T.node_at hi];exact List.getElem_mem hi)
  unfold nodeT kindN at h1
  simp [hk] at h1
  omega
end Go.Proofs.YtjgldaaofdpcgaaGreat
