/- Walks and plain facts for the laws of membership, for all values and types that the heap holds (texts Lex). -/
import Derived.StillTail
import Derived.Laws.Sem
import Derived.WalkKit
set_option linter.unusedVariables false
set_option linter.unusedSimpArgs false
namespace Go.Lex
open Go

def Blind {α : Type} (P : Program) (s : Sem α) : Prop:=∀ w a w',s.run P w = .ok a w' → w' = w ∧ ∀ w2,s.run P w2 = .ok a w2
def Reads {α : Type} (P : Program) (s : Sem α) : Prop:=∀ w a w',s.run P w = .ok a w' → w' = w
def Never {α : Type} (P : Program) (s : Sem α) : Prop:=∀ w a w',s.run P w ≠ .ok a w'
section
variable {α β : Type} {P : Program}
theorem Never.blind {s : Sem α} (h : Never P s) : Blind P s:=fun w a w' e=>absurd e (h w a w')
theorem Blind.reads {s : Sem α} (h : Blind P s) : Reads P s:=fun w a w' e=>(h w a w' e).1
theorem t0g (a : α) : Blind P (pure a : Sem α):=by
  intro w b w' h
  simp at h
  obtain ⟨rfl,rfl⟩:=h
  exact ⟨rfl,fun w2=>by simp⟩
theorem tao (x : Halt) : Never P (.halt x : Sem α):=by
  intro w b w' h
  simp [Sem.run] at h
theorem tap (x : Halt) : Blind P (.halt x : Sem α):=(tao x).blind
theorem t3p : Blind P program:=by
  intro w b w' h
  simp [program,Sem.run] at h
  obtain ⟨rfl,rfl⟩:=h
  exact ⟨rfl,fun w2=>by simp [program,Sem.run]⟩
theorem andThen_ok {r : Result α} {f : α → World → Result β} {b : β} {w' : World} (h : r.andThen f = .ok b w') : ∃ a w1,r = .ok a w1 ∧ f a w1 = .ok b w':=by
  cases r with
  | ok a w1=>exact ⟨a,w1,rfl,h⟩
  | halt x w1=>simp [Result.andThen] at h
theorem t0i {s : Sem α} {f : α → Sem β} (hs : Blind P s) (hf : ∀ a,Blind P (f a)) : Blind P (s >>= f):=by
  intro w b w' h
  rw [Sem.run_bind] at h
  obtain ⟨a,w1,h1,h2⟩:=andThen_ok h
  obtain ⟨rfl,k1⟩:=hs _ _ _ h1
  obtain ⟨rfl,k2⟩:=hf _ _ _ _ h2
  refine ⟨rfl,fun w2=>?_⟩
  rw [Sem.run_bind,k1 w2]
  exact k2 w2
theorem t5h {s : Sem α} {f : α → Sem β} (hs : Reads P s) (hf : ∀ a,Reads P (f a)) : Reads P (s >>= f):=by
  intro w b w' h
  rw [Sem.run_bind] at h
  obtain ⟨a,w1,h1,h2⟩:=andThen_ok h
  have k1:=hs _ _ _ h1
  have k2:=hf _ _ _ _ h2
  rw [k2,k1]
theorem t6e {s : Sem α} {f : α → Sem β} (hf : ∀ a,Never P (f a)) : Never P (s >>= f):=by
  intro w b w' h
  rw [Sem.run_bind] at h
  obtain ⟨a,w1,h1,h2⟩:=andThen_ok h
  exact hf _ _ _ _ h2
theorem t8r (v : Value) : Never P (goPanic v : Sem α):=tao _
theorem t3x (e : RuntimeError) : Never P (runtimePanic e : Sem α):=by
  unfold runtimePanic
  refine t6e fun p=>?_
  cases e <;> first | exact t8r _ | exact t6e fun _=>t6e fun _=>t8r _
theorem t9w (k : IntKind) (x y : Int) (c : BoundsCode) : Never P (boundsPanic k x y c : Sem α):=by
  unfold boundsPanic
  dsimp only
  split <;> exact t6e fun _=>t3x _
theorem t0m (s : String) : Blind P (stuck s : Sem α):=tap _
theorem t1h (u : Unsupported) : Blind P (unsupported u : Sem α):=tap _
theorem t3i (k : IntKind) (x y : Int) (c : BoundsCode) : Blind P (boundsPanic k x y c : Sem α):=(t9w k x y c).blind
theorem t2p (e : RuntimeError) : Blind P (runtimePanic e : Sem α):=(t3x e).blind
theorem t1i (t : TypeId) : Blind P (underlying t):=by
  unfold underlying
  refine t0i t3p fun p=>?_
  split
  · exact t0g _
  · exact t0m _
theorem t4l (t : TypeId) : Blind P (typeInfo t):=by
  unfold typeInfo
  refine t0i t3p fun p=>?_
  split
  · exact t0g _
  · exact t0m _
theorem t1y (t : TypeId) : Blind P (sizeOf t):=t0i (t4l t) fun _=>t0g _
theorem t6w (t : TypeId) : Blind P (zeroValue t):=by
  unfold zeroValue
  refine t0i (t4l t) fun p=>?_
  split
  · exact t0g _
  · exact t1h _
theorem t7f (t : TypeId) : Blind P (isAgg t):=by
  unfold isAgg
  refine t0i (t1i t) fun p=>?_
  split <;> exact t0g _
theorem t2d (t : TypeId) (cs : Array Value) (off : Nat) : Blind P (part t cs off):=by
  unfold part
  refine t0i (t7f t) fun p=>?_
  split
  · exact t0i (t1y _) fun _=>t0g _
  · split
    · exact t0g _
    · exact t0m _
theorem t6b (v : Value) : Blind P (asIntOf v):=by
  unfold asIntOf
  split <;> first | exact t0g _ | exact t1h _ | exact t0m _
theorem t5i (v : Value) : Blind P (asBool v):=by
  unfold asBool
  split <;> first | exact t0g _ | exact t0m _
theorem te3 (v : Value) : Blind P (asAgg v):=by
  unfold asAgg
  split <;> first | exact t0g _ | exact t0m _
theorem tcy (v : Value) : Blind P (asAddr v):=by
  unfold asAddr
  split <;> first | exact t0g _ | exact t0m _ | exact t2p _
theorem t4m (v : Value) : Blind P (Instr.sureAddr v):=by
  unfold Instr.sureAddr
  split <;> first | exact t0g _ | exact t0m _
theorem taa (x : Value) (y : Nat) (c : BoundsCode) : Blind P (Instr.sliceBound x y c):=by
  unfold Instr.sliceBound
  refine t0i (t6b x) fun ki=>?_
  obtain ⟨k,i⟩:=ki
  dsimp only
  split
  · exact t0g _
  · exact t3i _ _ _ _
theorem t2t (b : Bool) (len cap : Nat) (lo hi mx : Option Value) : Blind P (Instr.sliceBounds b len cap lo hi mx):=by
  unfold Instr.sliceBounds
  dsimp only
  repeat' first | exact t0g _ | exact t0m _ | exact taa _ _ _ | refine t0i ?_ fun _=>?_ | split
theorem te4 (t : TypeId) (x : Value) (lo hi mx : Option Value) : Blind P (Instr.slice t x lo hi mx):=by
  unfold Instr.slice
  refine t0i (t1i t) fun d=>?_
  split
  · split
    · exact t0i (t0m _) fun _=>t0i (t2t _ _ _ _ _ _) fun _=>t0g _
    · exact t0i (t2t _ _ _ _ _ _) fun _=>t0g _
  · exact t0i (t2t _ _ _ _ _ _) fun _=>t0i (t1y _) fun _=>t0g _
  · refine t0i (tcy _) fun _=>t0i (t1i _) fun d=>?_
    split
    · exact t0i (t2t _ _ _ _ _ _) fun _=>t0i (t1y _) fun _=>t0g _
    · exact t0m _
  · exact t0m _
theorem tcj (t : TypeId) (x : Value) (lo hi mx : Option Value) : Blind P (Instr.sliceAt t x lo hi mx):=by
  unfold Instr.sliceAt
  refine t0i (t1i t) fun d=>?_
  split
  · exact t0i (t4m _) fun _=>t0i (t2t _ _ _ _ _ _) fun _=>t0i (t1y _) fun _=>t0g _
  · exact te4 _ _ _ _ _
theorem tck (t : TypeId) (x i : Value) : Blind P (Instr.indexAt t x i):=by
  unfold Instr.indexAt
  refine t0i (t6b i) fun ki=>?_
  dsimp only
  repeat' first | exact t0g _ | exact t0m _ | exact t1i _ | exact t4m _ | exact t1y _ | exact t1h _ | exact t3i _ _ _ _ | refine t0i ?_ fun _=>?_ | split
theorem te5 (t : TypeId) (x i : Value) : Blind P (Instr.index t x i):=by
  unfold Instr.index
  refine t0i (t6b i) fun ki=>t0i (t1i t) fun d=>?_
  split
  · split
    · exact t0i (t1y _) fun _=>t2d _ _ _
    · exact t3i _ _ _ _
  · split
    · exact t0g _
    · exact t3i _ _ _ _
  · exact t0m _
theorem te6 (t : TypeId) (x : Value) (f : Nat) : Blind P (Instr.field t x f):=by
  unfold Instr.field
  refine t0i (t1i t) fun d=>?_
  split
  · split
    · exact t0i (te3 _) fun _=>t2d _ _ _
    · exact t0m _
  · exact t0m _
theorem tcl (t : Value) (i : Nat) : Blind P (Instr.extract t i):=by
  unfold Instr.extract
  split
  · split <;> first | exact t0g _ | exact t0m _
  · exact t0m _
theorem t8u (t : TypeId) (x : Value) : Blind P (Instr.makeInterface t x):=by
  unfold Instr.makeInterface
  refine t0i (t1i t) fun d=>?_
  split <;> first | exact t0g _ | exact t0m _
theorem t9x (l : List FieldStep) : ∀ (t : TypeId) (x : Option Value),Blind P (followBlind l t x):=by
  induction l with
  | nil=>intro t x;exact t0g _
  | cons s l ih =>
    intro t x
    unfold followBlind
    refine t0i (t1i _) fun d=>?_
    split
    · split
      · split
        · exact t0g _
        · exact ih _ _
        · exact t0m _
        · exact t0g _
        · exact t0i (t2d _ _ _) fun _=>ih _ _
        · exact t0m _
        · exact ih _ _
      · exact t0m _
    · exact t0m _
theorem tbk (n : Nat) : ∀ (t : TypeId) (v : Value) (name : String),Blind P (nilAhead n t v name):=by
  induction n with
  | zero=>intro t v name;exact t0g _
  | succ n ih =>
    intro t v name
    unfold nilAhead
    refine t0i (t4l _) fun i=>?_
    split
    · refine t0i (t9x _ _ _) fun r=>?_
      split
      · exact t0g _
      · split
        · exact ih _ _ _
        · exact t0g _
        · exact t0m _
        · exact t0g _
        · exact t0g _
        · refine t0i (t1i _) fun d=>?_
          split <;> exact t0g _
    · exact t0m _
theorem t3j {t : TypeId} {f : TypeDesc → Sem β} (hf : ∀ d,P.underlying t = some d → Blind P (f d)) : Blind P (underlying t >>= f):=by
  intro w b w' h
  have key : ∀ w, (underlying t).run P w = (match P.underlying t with | some d => .ok d w | none => .halt (.stuck "no such type") w) := by
    intro w
    simp only [underlying,Sem.run_bind,program,Sem.run,Result.andThen]
    cases P.underlying t <;> simp [stuck]
  rw [Sem.run_bind,key] at h
  cases hd : P.underlying t with
  | none=>simp [hd,Result.andThen] at h
  | some d =>
    simp only [hd,Result.andThen] at h
    obtain ⟨rfl,k⟩:=hf d hd _ _ _ h
    refine ⟨rfl,fun w2=>?_⟩
    rw [Sem.run_bind,key,hd]
    exact k w2
def okV : Value → Bool
  | .int .. | .string _ | .bool _=>true
  | _=>false
def okD (v : Value) : Bool:=okV v || (match v with | .agg cs=>cs.toList.all okV | _=>false)
def nilV : Value → Bool
  | .pointer none | .slice none _ _ | .map none=>true
  | _=>false
def isEq : BinOp → Bool
  | .eql | .neq=>true
  | _=>false
def okBin (op : BinOp) (x y : Value) : Bool:=(okV x && okV y) || (isEq op && (nilV x || nilV y)) || (isEq op && okD x && okD y)
theorem t2x (op : BinOp) (k yk : IntKind) (a b : Int) : Blind P (Op.intArith op k a b) ∧ Blind P (Op.intDiv op k a b) ∧ Blind P (Op.intBits op k a b) ∧ Blind P (Op.intCmp op a b) ∧ Blind P (Op.shift op k a yk b):=by
  refine ⟨?_,?_,?_,?_,?_⟩
  · unfold Op.intArith;split <;> first | exact t0g _ | exact t0m _
  · unfold Op.intDiv;repeat' first | exact t0g _ | exact t0m _ | exact t2p _ | split
  · unfold Op.intBits;dsimp only;split <;> first | exact t0g _ | exact t0m _
  · unfold Op.intCmp;split <;> first | exact t0g _ | exact t0m _
  · unfold Op.shift;dsimp only;repeat' first | exact t0g _ | exact t0m _ | exact t2p _ | split
theorem t4n (op : BinOp) (a b : ByteArray) : Blind P (Op.stringOp op a b):=by
  unfold Op.stringOp;dsimp only;repeat' first | exact t0g _ | exact t0m _ | exact t1h _ | split
theorem ta1 (t : TypeId) (x y : Value) (h : (okV x && okV y) = true ∨ nilV x = true ∨ nilV y = true) : Blind P (Op.equal t x y):=by
  unfold Op.equal
  change Blind P (Op.equalIn (9999 + 1) t x y)
  unfold Op.equalIn
  refine t0i (t1i t) fun d=>?_
  split <;> first
    | exact t0g _
    | exact t0m _
    | exact t1h _
    | (exfalso;simp [okV,nilV] at h;done)
    | (split <;> first | exact t0g _ | exact t0m _)
    | skip
  all_goals
    unfold samePointer
    split <;> first | exact t0g _ | (exfalso;simp [okV,nilV] at h;done)
theorem t3r {s : Sem α} {f : α → Sem β} {R : α → Prop} (hs : Blind P s) (hR : ∀ w a w',s.run P w = .ok a w' → R a) (hf : ∀ a,R a → Blind P (f a)) : Blind P (s >>= f):=by
  intro w b w' h
  rw [Sem.run_bind] at h
  obtain ⟨a,w1,h1,h2⟩:=andThen_ok h
  obtain ⟨rfl,k1⟩:=hs _ _ _ h1
  obtain ⟨rfl,k2⟩:=hf _ (hR _ _ _ h1) _ _ _ h2
  refine ⟨rfl,fun w2=>?_⟩
  rw [Sem.run_bind,k1 w2]
  exact k2 w2
theorem t3s {γ : Type} (f : α → γ → Sem (ForInStep γ)) (hf : ∀ a s,Blind P (f a s)) : ∀ (l : List α) (s : γ),Blind P (forIn l s f)
  | [],s=>by simp only [List.forIn_nil];exact t0g _
  | a :: l,s=>by
    simp only [List.forIn_cons]
    refine t0i (hf a s) fun r=>?_
    cases r with
    | done b=>exact t0g _
    | yield b=>exact t3s f hf l b
theorem t5p {t : TypeId} {cs : Array Value} {off : Nat} (hcs : cs.toList.all okV = true) (w : World) (v : Value) (w' : World) (h : (part t cs off).run P w = .ok v w') : okD v = true:=by
  unfold part at h
  rw [Sem.run_bind] at h
  obtain ⟨b,w1,h1,h2⟩:=andThen_ok h
  cases b
  · simp only [Bool.false_eq_true,if_false] at h2
    split at h2
    · rename_i v2 hv2
      simp at h2
      obtain ⟨rfl,rfl⟩:=h2
      have : v2 ∈ cs.toList:=by simpa using Array.mem_of_getElem? hv2
      unfold okD
      rw [List.all_eq_true.1 hcs _ this]
      rfl
    · simp [stuck] at h2
  · simp only [if_true] at h2
    rw [Sem.run_bind] at h2
    obtain ⟨n,w2,h3,h4⟩:=andThen_ok h2
    simp at h4
    obtain ⟨rfl,rfl⟩:=h4
    unfold okD
    rw [Bool.or_eq_true]
    right
    simp only [List.all_eq_true] at hcs ⊢
    intro x hx
    refine hcs x ?_
    simp only [Array.toList_extract] at hx
    exact List.mem_of_mem_drop (List.mem_of_mem_take (by simpa [List.extract] using hx))
theorem t5a : ∀ (d : Nat) (t : TypeId) (x y : Value),okD x = true → okD y = true → Blind P (Op.equalIn d t x y)
  | 0,_,_,_,_,_=>by unfold Op.equalIn;exact t1h _
  | d + 1,t,x,y,hx,hy=>by
    unfold Op.equalIn
    refine t0i (t1i t) fun D=>?_
    split <;> first
      | exact t0g _
      | exact t0m _
      | exact t1h _
      | (exfalso;simp [okD,okV] at hx;done)
      | (exfalso;simp [okD,okV] at hy;done)
      | (split <;> first | exact t0g _ | exact t0m _)
      | skip
    · rename_i fields xs ys
      have hx' : xs.toList.all okV = true:=by simpa [okD,okV] using hx
      have hy' : ys.toList.all okV = true:=by simpa [okD,okV] using hy
      refine t0i t3p fun p=>?_
      dsimp only
      split
      · exact t0i (t1h _) fun _=>t0i (by
          rw [← Array.forIn_toList]
          refine t3s _ (fun f s=>?_) _ _
          split
          · exact t3r (t2d _ _ _) (t5p hx') fun a ha=>t3r (t2d _ _ _) (t5p hy') fun b hb=>t0i (t5a d _ _ _ ha hb) fun r=>by split <;> exact t0g _
          · exact t0g _) fun s=>by obtain ⟨r,_⟩:=s;cases r <;> exact t0g _
      · exact t0i (by
          rw [← Array.forIn_toList]
          refine t3s _ (fun f s=>?_) _ _
          split
          · exact t3r (t2d _ _ _) (t5p hx') fun a ha=>t3r (t2d _ _ _) (t5p hy') fun b hb=>t0i (t5a d _ _ _ ha hb) fun r=>by split <;> exact t0g _
          · exact t0g _) fun s=>by obtain ⟨r,_⟩:=s;cases r <;> exact t0g _
    · rename_i len elem xs ys
      have hx' : xs.toList.all okV = true:=by simpa [okD,okV] using hx
      have hy' : ys.toList.all okV = true:=by simpa [okD,okV] using hy
      refine t0i (t1y _) fun n=>t0i ?_ fun s=>by obtain ⟨r,_⟩:=s;cases r <;> exact t0g _
      rw [Std.Legacy.Range.forIn_eq_forIn_range']
      refine t3s _ (fun i s=>?_) _ _
      exact t3r (t2d _ _ _) (t5p hx') fun a ha=>t3r (t2d _ _ _) (t5p hy') fun b hb=>t0i (t5a d _ _ _ ha hb) fun r=>by split <;> exact t0g _
theorem t5j : ∀ (d : Nat) (t : TypeId) (x y : Value),Blind P (Op.eqGuardIn d t x y)
  | 0,_,_,_=>by unfold Op.eqGuardIn;exact t1h _
  | d + 1,t,x,y=>by
    unfold Op.eqGuardIn
    refine t0i (t1i t) fun D=>?_
    split
    · exact t0g _
    · refine t0i ?_ fun s=>by obtain ⟨r,_⟩:=s;cases r <;> exact t0g _
      rw [← Array.forIn_toList]
      refine t3s _ (fun f s=>?_) _ _
      split
      · exact t0i (t2d _ _ _) fun a=>t0i (t2d _ _ _) fun b=>t0i (t5j d _ _ _) fun r=>by split <;> exact t0g _
      · exact t0g _
    · refine t0i (t1y _) fun n=>t0i ?_ fun s=>by obtain ⟨r,_⟩:=s;cases r <;> exact t0g _
      rw [Std.Legacy.Range.forIn_eq_forIn_range']
      refine t3s _ (fun i s=>?_) _ _
      exact t0i (t2d _ _ _) fun a=>t0i (t2d _ _ _) fun b=>t0i (t5j d _ _ _) fun r=>by split <;> exact t0g _
    · exact t0g _
theorem tcz (t : TypeId) (x y : Value) (hx : okD x = true) (hy : okD y = true) : Blind P (Op.equal t x y):=t5a _ _ _ _ hx hy
theorem tab (op : BinOp) (t : TypeId) (x y : Operand) (a b : Value) : Blind P (eqGuard op t x y a b):=by
  unfold eqGuard
  repeat' first | exact t0g _ | exact t1h _ | refine t0i t3p fun _=>?_ | refine t0i (t5j _ _ _ _) fun _=>?_ | split
theorem te7 (op : BinOp) (t : TypeId) (a b : Value) (h : okBin op a b = true) : Blind P (binOp op t a b):=by
  simp only [okBin,Bool.or_eq_true,Bool.and_eq_true] at h
  rcases h with (⟨ha,hb⟩ | ⟨he,hn⟩) | ⟨⟨he,hx⟩,hy⟩
  · cases a <;> simp only [okV,Bool.false_eq_true] at ha <;> cases b <;> simp only [okV,Bool.false_eq_true] at hb <;> cases op <;> simp only [binOp] <;>
      first
        | exact t0m _
        | exact t4n _ _ _
        | (split <;> first | exact t0m _ | exact (t2x _ _ .i64 _ _).1 | exact (t2x _ _ .i64 _ _).2.1 | exact (t2x _ _ .i64 _ _).2.2.1 | exact (t2x _ .i64 .i64 _ _).2.2.2.1)
        | exact (t2x _ _ _ _ _).2.2.2.2
        | exact t0i (ta1 _ _ _ (.inl rfl)) fun _=>t0g _
  · have key : Blind P (Op.equal t a b):=ta1 t a b (.inr hn)
    cases op <;> simp only [isEq,Bool.false_eq_true] at he
    all_goals
      unfold binOp
      split <;> first
        | exact t0i key fun _=>t0g _
        | exact t0m _
        | (exfalso;simp [nilV] at hn;done)
        | (exfalso;simp_all;done)
  · have key : Blind P (Op.equal t a b):=tcz t a b hx hy
    cases op <;> simp only [isEq,Bool.false_eq_true] at he
    all_goals
      unfold binOp
      split <;> first
        | exact t0i key fun _=>t0g _
        | exact t0m _
        | (exfalso;simp [okD,okV] at hx;done)
        | (exfalso;simp [okD,okV] at hy;done)
        | (split <;> first | exact t0m _ | exact (t2x _ .i64 .i64 _ _).2.2.2.1)
        | exact t4n _ _ _
        | (exfalso;simp_all;done)
theorem t7y (m : Mode) (a : Addr) : Reads P (.load m a .pure : Sem Value):=by
  intro w v w' h
  simp only [Sem.run] at h
  split at h
  · cases h;rfl
  · split at h
    · cases h;rfl
    · cases h
theorem t8v (a : Addr) (n : Nat) : ∀ (i : Nat) (acc : Array Value),Reads P (loadCellsFrom a i n acc):=by
  induction n with
  | zero=>intro i acc;exact (t0g _).reads
  | succ n ih=>intro i acc;unfold loadCellsFrom;exact t5h (t7y _ _) fun _=>ih _ _
theorem tcm (t : TypeId) (a : Addr) : Reads P (loadVar t a):=by
  unfold loadVar
  refine t5h (t7f t).reads fun b=>?_
  split
  · exact t5h (t1y _).reads fun _=>t5h (t8v _ _ _ _) fun _=>(t0g _).reads
  · exact t7y _ _
theorem td0 (t : TypeId) (a : Value) : Reads P (Instr.loadAt t a):=by
  unfold Instr.loadAt
  exact t5h (t4m _).reads fun _=>tcm _ _
def t5c (P : Program) (s : Sem Next) : Prop:=∀ w n w',s.run P w = .ok n w' → w' = w ∧ ∃ v,n = .value v
theorem t2q {s : Sem Value} (h : Blind P s) : Blind P (do pure (.value (← s)) : Sem Next) ∧ t5c P (do pure (.value (← s)) : Sem Next):=by
  refine ⟨t0i h fun _=>t0g _,fun w n w' e=>?_⟩
  rw [Sem.run_bind] at e
  obtain ⟨a,w1,h1,h2⟩:=andThen_ok e
  simp at h2
  obtain ⟨rfl,rfl⟩:=h2
  exact ⟨(h _ _ _ h1).1,a,rfl⟩
theorem tjj {s : Sem Value} (h : Reads P s) : t5c P (do pure (.value (← s)) : Sem Next):=by
  intro w n w' e
  rw [Sem.run_bind] at e
  obtain ⟨a,w1,h1,h2⟩:=andThen_ok e
  simp at h2
  obtain ⟨rfl,rfl⟩:=h2
  exact ⟨h _ _ _ h1,a,rfl⟩
def tg1 (P : Program) (t : TypeId) : Bool :=
  match P.underlying t with
  | some .bool | some (.int _) | some .string | some (.pointer _) | some (.slice _) | some (.map _ _) | some (.struct _) | some (.array _ _)=>true
  | _=>false
def tbl (P : Program) (t : TypeId) : Bool :=
  match P.underlying t with
  | some .string | some (.slice _)=>true
  | _=>false
def tin (P : Program) (t : TypeId) : Bool :=
  match P.underlying t with
  | some (.int _)=>true
  | _=>false
def tac (P : Program) (t : TypeId) : Bool :=
  match P.underlying t with
  | some (.int _) | some .string=>true
  | _=>false
def t8w (P : Program) (s : TypeId) (f : Nat) : Bool :=
  match P.underlying s with
  | some (.struct fields)=>(match fields[f]? with | some x=>(match P.info? x.type with | some i=>i.size != 0 | none=>false) | none=>false)
  | _=>false
theorem ta2 {α β : Type} {f : α → Sem β} (hf : ∀ a,Blind P (f a)) : ∀ (l : List α),Blind P (l.mapM f)
  | []=>by rw [List.mapM_nil];exact t0g _
  | a :: l=>by rw [List.mapM_cons];exact t0i (hf a) fun b=>t0i (ta2 hf l) fun bs=>t0g _
theorem tfa {α β : Type} {f : α → Sem β} (hf : ∀ a,Blind P (f a)) (as : Array α) : Blind P (as.mapM f):=by
  rw [Array.mapM_eq_mapM_toList,map_eq_pure_bind]
  exact t0i (ta2 hf _) fun _=>t0g _
theorem te8 (t : TypeId) (parts : Array (Nat × Value)) : Blind P (Instr.build t parts):=by
  unfold Instr.build
  refine t0i (t6w t) fun z=>t0i (t1i t) fun d=>?_
  split
  · refine t0i (tfa (fun a=>t0i (t1y _) fun _=>t0g _) _) fun pl=>?_
    split
    · exact t0g _
    · exact t0m _
  · refine t0i (t1y _) fun s=>?_
    split
    · exact t0g _
    · exact t0m _
  · exact t0m _
theorem tad (x : Value) (xt t : TypeId) (ok : Bool) : Blind P (Instr.typeAssert x xt t ok):=by
  unfold Instr.typeAssert
  have fails : ∀ (a b : Option TypeId) (m : String),Blind P (if ok = true then (do pure (Value.tuple #[← zeroValue t,.bool false])) else runtimePanic (.typeAssertion a b t m) : Sem Value):=fun a b m=>by
    split
    · exact t0i (t6w _) fun _=>t0g _
    · exact t2p _
  refine t0i (t1i t) fun d=>?_
  split
  · exact fails _ _ _
  · refine t0i (t4l _) fun _=>?_
    split
    · exact t0g _
    · exact fails _ _ _
  · exact fails _ _ _
  · split
    · exact t0g _
    · exact fails _ _ _
  · exact t0m _
def cls (P : Program) : Op → Nat
  | .move _ | .assign _ | .pick .. | .nilCheck _ | .slice .. | .indexAddr .. | .index .. | .field .. | .extract .. | .makeInterface .. | .makeFunc .. | .build .. | .typeAssert ..=>0
  | .unOp .neg _ _ | .unOp .not _ _=>0
  | .fieldAddr s _ f=>if t8w P s f then 0 else 2
  | .binOp _ t _ _ _=>if tg1 P t then 0 else 2
  | .convert src dst _=>if tac P dst && tin P src then 0 else 2
  | .call { callee:=.builtin .len,args:=_,argTypes }=>if tbl P (argTypes.getD 0 0) then 0 else 2
  | .call { callee:=.builtin .min,args,argTypes:=_ } | .call { callee:=.builtin .max,args,argTypes:=_ }=>if args.size = 2 then 0 else 2
  | .load ..=>1
  | _=>2
def okC : Value → Bool
  | .int ..=>true
  | _=>false
def okAt (ρ : Operand → Value) : Op → Bool
  | .binOp op _ x y _=>okBin op (ρ x) (ρ y)
  | .convert _ _ x=>okC (ρ x)
  | .call { callee:=.builtin .min,args,argTypes:=_ } | .call { callee:=.builtin .max,args,argTypes:=_ }=>args.all fun x=>okV (ρ x)
  | _=>true
def t5q : Op → Bool
  | .binOp .. | .convert ..=>true
  | .call { callee:=.builtin .min,args:=_,argTypes:=_ } | .call { callee:=.builtin .max,args:=_,argTypes:=_ }=>true
  | _=>false
theorem tg2 {ρ : Operand → Value} {op : Op} (h : t5q op = false) : okAt ρ op = true:=by
  unfold okAt
  split <;> first | rfl | (exfalso;simp [t5q] at h;done)
theorem tcn (src dst : TypeId) (x : Value) (hd : tac P dst = true) (hx : okC x = true) : Blind P (convert src dst x):=by
  unfold convert
  refine t0i (t1i _) fun a=>t3j fun b hb=>?_
  simp only [tac,hb] at hd
  cases x <;> simp only [okC,Bool.false_eq_true] at hx
  cases b <;> simp only [Bool.false_eq_true] at hd
  · unfold Conv.intToInt;exact t0g _
  · unfold Conv.intToString;repeat' first | exact t0g _ | exact t0m _ | split
theorem tg3 (ts : Array TypeId) (t : TypeId) (xs : Array Value) (h : tbl P (ts.getD 0 0) = true) : Blind P (Builtin.len_ ts t xs):=by
  unfold Builtin.len_
  split
  · rename_i t0 x h0
    have ht : ts.getD 0 0 = t0:=by
      have:=(Prod.mk.injEq _ _ _ _).mp h0
      simp [Array.getD_eq_getD_getElem?,this.1]
    rw [ht] at h
    refine t3j fun d hd=>?_
    simp only [tbl,hd] at h
    split <;> first | exact t0g _ | exact t0m _ | (exfalso;simp at h;done)
  · exact t0m _
theorem tfb (x y : Value) (h : okV x = true) : Blind P (Builtin.min2 x y):=by
  unfold Builtin.min2
  split <;> first
    | exact t0g _
    | exact t0m _
    | exact t1h _
    | exact t0i (t4n _ _ _) fun _=>t0i (t5i _) fun _=>t0g _
    | (exfalso;simp [okV] at h;done)
theorem tfc (x y : Value) (h : okV x = true) : Blind P (Builtin.max2 x y):=by
  unfold Builtin.max2
  split <;> first
    | exact t0g _
    | exact t0m _
    | exact t1h _
    | exact t0i (t4n _ _ _) fun _=>t0i (t5i _) fun _=>t0g _
    | (exfalso;simp [okV] at h;done)
theorem tco (s : TypeId) (x : Value) (f : Nat) (h : t8w P s f = true) : Blind P (Instr.fieldAt s x f):=by
  unfold Instr.fieldAt
  refine t3j fun d hd=>?_
  simp only [t8w,hd] at h
  split
  · simp only at h
    split
    · rename_i fld hf
      rw [hf] at h
      simp only at h
      refine t0i (t4m _) fun a=>t0i ?_ fun _=>t0g _
      unfold fieldPlace
      have key : ∀ w,(sizeOf fld.type).run P w = .ok ((P.info? fld.type).map (·.size) |>.getD 0) w:=by
        intro w
        cases hi : P.info? fld.type with
        | none=>rw [hi] at h;simp at h
        | some i=>simp [sizeOf,typeInfo,program,Sem.run,hi,Result.andThen]
      intro w v w' e
      rw [Sem.run_bind,key] at e
      cases hi : P.info? fld.type with
      | none=>rw [hi] at h;simp at h
      | some i =>
        rw [hi] at h e
        simp at h
        simp [Result.andThen,h] at e
        obtain ⟨rfl,rfl⟩:=e
        refine ⟨rfl,fun w2=>?_⟩
        rw [Sem.run_bind,key,hi]
        simp [Result.andThen,h]
    · exact t0m _
  · exact t0m _
theorem tae {ρ : Operand → Value} {dst : Option Tmp} {type : TypeId} {pos : String} {after : Array Edge} {guard : Option (Nat × Bool)} {b : Builtin} {args : Array Operand} {ts : Array TypeId} :
    execOp ρ ⟨dst,.call { callee:=.builtin b,args,argTypes:=ts },type,pos,after,guard⟩ = builtin b ts type (args.map fun | .const _=>true | _=>false) (args.map ρ):=by
  simp only [execOp,resolve]
  rfl
theorem tg4 (t : TypeId) (v : Value) (name : String) (u : Unsupported) (x : Value) :
    Blind P (do
      let p ← program
      let q ← nilAhead (p.types.size + Made.depth) t v name
      if q != some false then unsupported u
      pure (.value x) : Sem Next) ∧
    t5c P (do
      let p ← program
      let q ← nilAhead (p.types.size + Made.depth) t v name
      if q != some false then unsupported u
      pure (.value x) : Sem Next):=by
  have hb : Blind P (do
      let p ← program
      let q ← nilAhead (p.types.size + Made.depth) t v name
      if q != some false then unsupported u
      pure (.value x) : Sem Next):=t0i t3p fun _=>t0i (tbk _ _ _ _) fun _=>by
    dsimp only
    split
    · exact t0i (t1h _) fun _=>t0g _
    · exact t0g _
  refine ⟨hb,fun w n w' e=>⟨(hb _ _ _ e).1,?_⟩⟩
  rw [Sem.run_bind] at e
  obtain ⟨p,w1,_,e⟩:=andThen_ok e
  rw [Sem.run_bind] at e
  obtain ⟨q,w2,_,e⟩:=andThen_ok e
  dsimp only at e
  split at e
  · rw [Sem.run_bind] at e
    obtain ⟨_,_,e,_⟩:=andThen_ok e
    simp [unsupported] at e
  · simp at e
    exact ⟨_,e.1.symm⟩
theorem cls0 {o : Oper} {ρ : Operand → Value} (h : cls P o.op = 0) (ho : okAt ρ o.op = true) : Blind P (execOp ρ o) ∧ t5c P (execOp ρ o):=by
  obtain ⟨dst,op,type,pos,after,guard⟩:=o
  dsimp only at h ho
  have vpure : ∀ v : Value,Blind P (pure (.value v) : Sem Next) ∧ t5c P (pure (.value v) : Sem Next):=fun v =>
    ⟨t0g _,fun w n w' e=>by simp at e;obtain ⟨rfl,rfl⟩:=e;exact ⟨rfl,v,rfl⟩⟩
  cases op
  case move x=>exact vpure _
  case assign x=>exact vpure _
  case pick c a b =>
    refine ⟨t0i (t5i _) fun _=>t0g _,fun w n w' e=>?_⟩
    simp only [execOp] at e
    rw [Sem.run_bind] at e
    obtain ⟨a1,w1,h1,h2⟩:=andThen_ok e
    simp at h2
    obtain ⟨rfl,rfl⟩:=h2
    exact ⟨(t5i _ _ _ _ h1).1,_,rfl⟩
  case nilCheck x =>
    have never : Blind P (runtimePanic .nilDeref : Sem Next) ∧ t5c P (runtimePanic .nilDeref : Sem Next) :=
      ⟨t2p _,fun w n w' e=>absurd e (t3x _ _ _ _)⟩
    simp only [execOp]
    split
    · exact never
    · exact never
    · exact never
    · split
      · exact never
      · exact tg4 _ _ _ _ _
      · exact vpure _
    · exact vpure _
  case fieldAddr s x f =>
    simp only [cls] at h
    split at h
    · rename_i hw;exact t2q (tco _ _ _ hw)
    · exact absurd h (by decide)
  case slice t x lo hi mx=>exact t2q (tcj _ _ _ _ _)
  case indexAddr t x i=>exact t2q (tck _ _ _)
  case index t x i=>exact t2q (te5 _ _ _)
  case field t x f=>exact t2q (te6 _ _ _)
  case extract t i=>exact t2q (tcl _ _)
  case makeInterface t x=>exact t2q (t8u _ _)
  case makeFunc f a c=>exact t2q (t0g _)
  case typeAssert x a t ok=>exact t2q (tad _ _ _ _)
  case build t ps=>exact t2q (te8 _ _)
  case unOp op t x =>
    cases op <;> simp only [cls] at h <;> first | exact absurd h (by decide) | skip
    · exact t2q (by unfold Op.unary;split <;> first | exact t0g _ | exact t1h _ | exact t0m _ | exact (t2x _ _ .i64 _ _).1 | contradiction)
    · exact t2q (by unfold Op.unary;split <;> first | exact t0g _ | exact t1h _ | exact t0m _ | contradiction)
  case binOp op t x y yt =>
    simp only [okAt] at ho
    exact t2q (t0i (tab _ _ _ _ _ _) fun _=>te7 _ _ _ _ ho)
  case convert src dst x =>
    simp only [cls] at h
    split at h
    · rename_i hd;exact t2q (tcn _ _ _ ((Bool.and_eq_true_iff.1 hd).1) ho)
    · exact absurd h (by decide)
  case call c =>
    obtain ⟨callee,args,ts⟩:=c
    cases callee with
    | value f=>exact absurd h (by simp [cls])
    | invoke r m=>exact absurd h (by simp [cls])
    | builtin b =>
      rw [tae]
      cases b <;> simp only [cls] at h <;> first | exact absurd h (by decide) | skip
      case len =>
        split at h
        · rename_i hl;exact t2q (tg3 _ _ _ hl)
        · exact absurd h (by decide)
      case max =>
        split at h
        · rename_i hs
          obtain ⟨x,y,rfl⟩ : ∃ x y,args = #[x,y]:=by
            obtain ⟨l⟩:=args
            match l,hs with
            | [x,y],_=>exact ⟨x,y,rfl⟩
          simp [okAt] at ho
          have hb : Blind P (Builtin.max_ ts type (Array.map ρ #[x,y])):=by
            have:=tfc (P:=P) (ρ x) (ρ y) ho.1
            simpa [Builtin.max_] using this
          exact t2q hb
        · exact absurd h (by decide)
      case min =>
        split at h
        · rename_i hs
          obtain ⟨x,y,rfl⟩ : ∃ x y,args = #[x,y]:=by
            obtain ⟨l⟩:=args
            match l,hs with
            | [x,y],_=>exact ⟨x,y,rfl⟩
          simp [okAt] at ho
          have hb : Blind P (Builtin.min_ ts type (Array.map ρ #[x,y])):=by
            have:=tfb (P:=P) (ρ x) (ρ y) ho.1
            simpa [Builtin.min_] using this
          exact t2q hb
        · exact absurd h (by decide)
  all_goals exact absurd h (by simp [cls])
theorem cls1 {o : Oper} {ρ : Operand → Value} (h : cls P o.op = 1) : t5c P (execOp ρ o):=by
  obtain ⟨dst,op,type,pos,after,guard⟩:=o
  dsimp only at h
  cases op
  case load t a=>exact tjj (td0 _ _)
  case fieldAddr=>simp only [cls] at h;split at h <;> exact absurd h (by decide)
  case binOp=>simp only [cls] at h;split at h <;> exact absurd h (by decide)
  case convert=>simp only [cls] at h;split at h <;> exact absurd h (by decide)
  case unOp op _ _=>cases op <;> simp only [cls] at h <;> exact absurd h (by decide)
  case call c =>
    obtain ⟨callee,args,ts⟩:=c
    cases callee with
    | value f=>exact absurd h (by simp [cls])
    | invoke r m=>exact absurd h (by simp [cls])
    | builtin b=>cases b <;> simp only [cls] at h <;> first | exact absurd h (by decide) | (split at h <;> exact absurd h (by decide))
  all_goals exact absurd h (by simp [cls])
end
section
variable {P : Program} {ops : Array Oper} {Q : Exit → Act → World → Prop} {md : Region.Mode}
structure Shut (Q : Exit → Act → World → Prop) : Prop where
  panic : ∀ c a w,¬ Q (.panic c) a w
  room : ∀ a w,¬ Q .outgrown a w
def taq (o : Oper) (a a' : Act) : Prop:=∃ u,a'.tmps = (a.put o.dst u).tmps
theorem t2w {i : Nat} {o : Oper} (hi : ops[i]? = some o) {K : Act → World → Prop} {a : Act} {w : World} (h : wpOp P ops Q i K a w) : wpOp P ops Q i (fun a' w'=>K a' w' ∧ taq o a a') a w:=by
  unfold wpOp at *
  simp only [hi] at *
  split
  · rename_i hw
    simp only [hw,if_true] at h
    rcases h with h | h
    case inr=>exact .inr h
    refine .inl ?_
    unfold Oper.wp at *
    generalize (execOp a.eval o).run P w = r at *
    cases r with
    | ok n w' =>
      cases n <;> simp only [Oper.upon] at h ⊢
      case value v=>exact ⟨h,v,rfl⟩
      case skip=>exact ⟨h,_,rfl⟩
      case defer d=>exact ⟨h,undef,by cases o.dst <;> rfl⟩
      case enter f args=>exact Calls.mono h fun e w'' he=>by cases e <;> first | exact ⟨he,_,rfl⟩ | exact he
      case row row args=>exact Rows.mono h fun v w'' he=>⟨he,v,rfl⟩
    | halt x w'=>cases x <;> simp only [Oper.upon] at h ⊢;exact h
  · rename_i hw
    simp only [hw] at h
    exact ⟨h,undef,rfl⟩
theorem t3c (hQ : Shut Q) {i : Nat} {o : Oper} (hi : ops[i]? = some o) {K : Act → World → Prop} {a : Act} {w : World} (h : wpOp P ops Q i K a w) : ∃ a' w',K a' w':=by
  unfold wpOp at h
  simp only [hi] at h
  split at h
  · rcases h with h | ⟨_,a0,w0,h⟩
    · unfold Oper.wp at h
      generalize (execOp a.eval o).run P w = r at h
      cases r with
      | ok n w' =>
        cases n <;> simp only [Oper.upon] at h
        case value v=>exact ⟨_,_,h⟩
        case skip=>exact ⟨_,_,h⟩
        case defer d=>exact ⟨_,_,h⟩
        case enter f args =>
          obtain ⟨e,w'',fr,he,_⟩:=h []
          cases e with
          | returned v=>exact ⟨_,_,he⟩
          | panicked c=>exact absurd he (hQ.panic _ _ _)
          | outgrown=>obtain ⟨a0,w0,h0⟩:=he;exact absurd h0 (hQ.room _ _)
        case row row args =>
          obtain ⟨v,w'',he,_⟩:=h default []
          exact ⟨_,_,he⟩
      | halt x w'=>cases x <;> simp only [Oper.upon] at h;exact absurd h (hQ.panic _ _ _)
    · exact absurd h (hQ.room _ _)
  · exact ⟨_,_,h⟩
theorem t6x {o : Oper} {i : Nat} (hQ : Shut Q) (hi : ops[i]? = some o) (hc : cls P o.op = 0) {a : Act} (ho : Region.wanted o (yielded ops a.tmps) = true → okAt a.eval o.op = true) {K : Act → World → Prop} {w : World}
    (h : wpOp P ops Q i K a w) : ∃ v,Yields P ops o v a ∧ K (a.put o.dst v) w:=by
  unfold wpOp at h
  simp only [hi] at h
  by_cases hw : Region.wanted o (yielded ops a.tmps) = true
  · simp only [hw,if_true] at h
    obtain ⟨hb,hy⟩:=cls0 hc (ho hw)
    rcases h with h | ⟨_,a0,w0,h⟩
    · unfold Oper.wp at h
      cases hr : (execOp a.eval o).run P w with
      | ok n w' =>
        obtain ⟨rfl,v,rfl⟩:=hy _ _ _ hr
        rw [hr] at h
        exact ⟨v,.inl ⟨hw,(hb _ _ _ hr).2⟩,h⟩
      | halt x w' =>
        rw [hr] at h
        cases x <;> simp only [Oper.upon] at h
        exact absurd h (hQ.panic _ _ _)
    · exact absurd h (hQ.room _ _)
  · simp only [hw] at h
    exact ⟨undef,.inr ⟨by simpa using hw,rfl⟩,h⟩
theorem t6p {i : Nat} {oi oj : Oper} {v : Value} (hQ : Shut Q) (hi : ops[i]? = some oi) (hsi : ∀ cs b,oi.op ≠ .select cs b)
    (h1 : ∀ d,oj.dst = some d → d ∉ oi.looksAt ops) (h2 : ∀ d,oi.dst = some d → oj.dst ≠ some d) {K : Act → World → Prop} {a : Act} {w : World}
    (h : wpOp P ops Q i (fun a' w'=>K (a'.put oj.dst v) w') a w) : wpOp P ops Q i K (a.put oj.dst v) w:=by
  unfold wpOp at *
  simp only [hi] at *
  rw [wanted_put oi a oj.dst v h1]
  split
  · rename_i hw
    simp only [hw,if_true] at h
    rcases h with h | ⟨_,a0,w0,h⟩
    case inr=>exact absurd h (hQ.room _ _)
    refine .inl ?_
    unfold Oper.wp at *
    rw [execOp_put oi hsi a oj.dst v h1]
    generalize (execOp a.eval oi).run P w = r at *
    cases r with
    | ok n w' =>
      cases n <;> simp only [Oper.upon] at h ⊢
      case value u=>rw [← Act.put_comm a u v h2];exact h
      case skip=>rw [← Act.put_comm a undef v h2];exact h
      case defer d =>
        rw [Act.put_defers,← Act.put_comm _ undef v h2]
        exact h
      case enter f args =>
        refine Calls.mono h fun e w'' he=>?_
        cases e with
        | returned u=>dsimp only at he ⊢;rw [← Act.put_comm a u v h2];exact he
        | panicked c=>exact absurd he (hQ.panic _ _ _)
        | outgrown=>exact he
      case row row args=>exact Rows.mono h fun u w'' he=>by rw [← Act.put_comm a u v h2];exact he
    | halt x w' =>
      cases x <;> simp only [Oper.upon] at h ⊢
      case panic u=>exact absurd h (hQ.panic _ _ _)
  · rename_i hw
    simp only [hw] at h
    rw [← Act.put_comm a undef v h2];exact h
def comm (P : Program) (oi oj : Op) : Bool:=cls P oi == 0 || cls P oj == 0 || (cls P oi == 1 && cls P oj == 1)
theorem t7z {ρ ρ' : Operand → Value} (op : Op) (h : ∀ x ∈ op.operands,ρ x = ρ' x) : okAt ρ op = okAt ρ' op:=by
  cases op <;> simp only [Op.operands] at h <;> simp only [okAt]
  case binOp=>simp_all
  case convert=>simp_all
  case call c =>
    obtain ⟨callee,args,ts⟩:=c
    cases callee with
    | value f=>rfl
    | invoke r m=>rfl
    | builtin b =>
      cases b <;> first | rfl | skip
      all_goals
        change (args.all fun x=>okV (ρ x)) = (args.all fun x=>okV (ρ' x))
        rw [Bool.eq_iff_iff,Array.all_eq_true_iff_forall_mem,Array.all_eq_true_iff_forall_mem]
        constructor <;> intro H x hx
        · rw [← h x (by simp [Call.operands,hx])];exact H x hx
        · rw [h x (by simp [Call.operands,hx])];exact H x hx
theorem ta3 {i j : Nat} {oi oj : Oper} {v : Value} (hQ : Shut Q) (hi : ops[i]? = some oi) (hj : ops[j]? = some oj) (hap : oi.apart ops oj = true)
    (hsi : ∀ cs b,oi.op ≠ .select cs b) (hsj : ∀ cs b,oj.op ≠ .select cs b) {K : Act → World → Prop} {a : Act} {w : World} (hya : Yields P ops oj v a)
    (h : wpOp P ops Q i (wpOp P ops Q j K) a w) : wpOp P ops Q j (wpOp P ops Q i K) a w:=by
  obtain ⟨h1,h2,h3⟩:=Oper.apart_spec hap
  refine hya.wpOp hj (t6p hQ hi hsi h3 h2 ?_)
  refine wpOp_mono (fun a' w' ⟨hk',ht'⟩=>?_) (t2w hi h)
  have key : execOp a'.eval oj = execOp a.eval oj ∧ Region.wanted oj (yielded ops a'.tmps) = Region.wanted oj (yielded ops a.tmps):=by
    obtain ⟨u,hu⟩:=ht'
    have e1 : a'.eval = (a.put oi.dst u).eval:=by funext x;cases x <;> simp [Act.eval,hu]
    rw [e1,hu]
    exact ⟨execOp_put oj hsj a oi.dst u h1,wanted_put oj a oi.dst u h1⟩
  have hy' : Yields P ops oj v a':=hya.of_same key.1 key.2
  unfold wpOp at hk'
  simp only [hj] at hk'
  rcases hy' with ⟨hw,hv⟩ | ⟨hw,rfl⟩
  · simp only [hw,if_true,Oper.wp,hv w',Oper.upon] at hk'
    exact hk'.elim id fun ⟨_,a0,w0,hx⟩=>absurd hx (hQ.room _ _)
  · simp only [hw] at hk'
    exact hk'
theorem swap {i j : Nat} {oi oj : Oper} (hQ : Shut Q) (hi : ops[i]? = some oi) (hj : ops[j]? = some oj) (hap : oi.apart ops oj = true)
    (hsi : ∀ cs b,oi.op ≠ .select cs b) (hsj : ∀ cs b,oj.op ≠ .select cs b) (hc : comm P oi.op oj.op = true) {K : Act → World → Prop} {a : Act} {w : World}
    (hoi : cls P oi.op = 0 → Region.wanted oi (yielded ops a.tmps) = true → okAt a.eval oi.op = true) (hoj : cls P oj.op = 0 → Region.wanted oj (yielded ops a.tmps) = true → okAt a.eval oj.op = true)
    (h : wpOp P ops Q i (wpOp P ops Q j K) a w) : wpOp P ops Q j (wpOp P ops Q i K) a w:=by
  obtain ⟨h1,h2,h3⟩:=Oper.apart_spec hap
  by_cases ci : cls P oi.op = 0
  · obtain ⟨v,hy,hk⟩:=t6x hQ hi ci (hoi ci) h
    have:=wpOp_put hj hap hsi hsj (fun c a w x=>absurd x (hQ.panic _ _ _)) hy hk
    exact wpOp_mono (fun a' w' ⟨hy',hk'⟩=>hy'.wpOp hi hk') this
  · by_cases cj : cls P oj.op = 0
    · -- a way through i: j yields there,so it yields here
      obtain ⟨a1,w1,hk,htu⟩:=t3c hQ hi (t2w hi h)
      have key : execOp a1.eval oj = execOp a.eval oj ∧ Region.wanted oj (yielded ops a1.tmps) = Region.wanted oj (yielded ops a.tmps) ∧ okAt a1.eval oj.op = okAt a.eval oj.op:=by
        obtain ⟨u,hu⟩:=htu
        have e1 : a1.eval = (a.put oi.dst u).eval:=by funext x;cases x <;> simp [Act.eval,hu]
        rw [e1,hu]
        refine ⟨execOp_put oj hsj a oi.dst u h1,wanted_put oj a oi.dst u h1,t7z _ fun x hx=>Act.eval_put fun d hd hxd=>h1 d hd (by
            subst hxd
            exact List.mem_append_left _ (List.mem_filterMap.2 ⟨.tmp d,by simpa using hx,rfl⟩))⟩
      obtain ⟨v,hy,_⟩:=t6x hQ hj cj (fun hw=>by rw [key.2.2];exact hoj cj (key.2.1 ▸ hw)) hk
      exact ta3 hQ hi hj hap hsi hsj (hy.of_same key.1.symm key.2.1.symm) h
    · -- both only look
      have ci1 : cls P oi.op = 1:=by simp [comm,ci,cj] at hc;exact hc.1
      have cj1 : cls P oj.op = 1:=by simp [comm,ci,cj] at hc;exact hc.2
      by_cases wi : Region.wanted oi (yielded ops a.tmps) = true
      · by_cases wj : Region.wanted oj (yielded ops a.tmps) = true
        · unfold wpOp at h
          simp only [hi,wi,if_true] at h
          rcases h with h | ⟨_,a0,w0,h⟩
          case inr=>exact absurd h (hQ.room _ _)
          unfold Oper.wp at h
          cases hr : (execOp a.eval oi).run P w with
          | halt x w'=>rw [hr] at h;cases x <;> simp only [Oper.upon] at h;exact absurd h (hQ.panic _ _ _)
          | ok n w' =>
            obtain ⟨rfl,v,rfl⟩:=cls1 ci1 _ _ _ hr
            rw [hr] at h
            simp only [Oper.upon,hj] at h
            rw [wanted_put oj a oi.dst v h1,if_pos wj] at h
            rcases h with h | ⟨_,a0,w0,h⟩
            case inr=>exact absurd h (hQ.room _ _)
            rw [execOp_put oj hsj a oi.dst v h1] at h
            cases hs : (execOp a.eval oj).run P w' with
            | halt x w2=>rw [hs] at h;cases x <;> dsimp only at h;exact absurd h (hQ.panic _ _ _)
            | ok n w2 =>
              obtain ⟨rfl,u,rfl⟩:=cls1 cj1 _ _ _ hs
              rw [hs] at h
              dsimp only at h
              unfold wpOp
              simp only [hj,hi,wj,if_true]
              refine .inl ?_
              unfold Oper.wp
              rw [hs]
              simp only [Oper.upon]
              rw [wanted_put oi a oj.dst u h3,if_pos wi]
              refine .inl ?_
              rw [execOp_put oi hsi a oj.dst u h3,hr]
              dsimp only
              rw [← Act.put_comm a v u h2]
              exact h
        · exact ta3 hQ hi hj hap hsi hsj (v:=undef) (.inr ⟨by simpa using wj,rfl⟩) h
      · have hy : Yields P ops oi undef a:=.inr ⟨by simpa using wi,rfl⟩
        have hk : wpOp P ops Q j K (a.put oi.dst undef) w:=by
          unfold wpOp at h
          simp only [hi,wi] at h
          exact h
        have:=wpOp_put hj hap hsi hsj (fun c a w x=>absurd x (hQ.panic _ _ _)) hy hk
        exact wpOp_mono (fun a' w' ⟨hy',hk'⟩=>hy'.wpOp hi hk') this
def fin (P : Program) (ops : Array Oper) (a : Act) : Bool :=
  ops.all fun o=>cls P o.op != 0 || !Region.wanted o (yielded ops a.tmps) || okAt a.eval o.op
def ssa (md : Region.Mode) (ops : Array Oper) : Bool :=
  (List.range ops.size).all fun k=>(List.range ops.size).all fun m =>
    match ops[k]?,ops[m]? with
    | some ok,some om=>!t5q ok.op || (match om.dst with
      | some d=>!(ok.looksAt ops).contains d || ok.after.any fun e=>Region.binds md e && e.on == m
      | none=>true)
    | _,_=>true
theorem thn (h : ssa md ops = true) {k m : Nat} {ok om : Oper} (hk : ops[k]? = some ok) (hm : ops[m]? = some om) (hfl : t5q ok.op = true) {d : Tmp} (hd : om.dst = some d) (hl : d ∈ ok.looksAt ops) :
    ∃ e ∈ ok.after,Region.binds md e = true ∧ e.on = m:=by
  simp only [ssa,List.all_eq_true,List.mem_range] at h
  have:=h k (Array.getElem?_eq_some_iff.1 hk).1 m (Array.getElem?_eq_some_iff.1 hm).1
  simp only [hk,hm,hd,hfl,Bool.not_true,Bool.false_or,Bool.or_eq_true,Bool.not_eq_true',List.contains_eq_mem,decide_eq_false_iff_not] at this
  rcases this with h1 | h1
  · exact absurd hl h1
  · obtain ⟨e,he,hb⟩:=Array.any_eq_true'.1 h1
    simp only [Bool.and_eq_true,beq_iff_eq] at hb
    exact ⟨e,he,hb.1,hb.2⟩
def Agree (ops : Array Oper) (listed : Array Bool) (a a' : Act) : Prop :=
  ∀ t,(∀ m o,ops[m]? = some o → listed.getD m true = false → o.dst ≠ some t) → a'.tmps[t]? = a.tmps[t]?
theorem t6f {i : Nat} {oi : Oper} {listed : Array Bool} {a a1 a2 : Act} (hi : ops[i]? = some oi) (hr : listed.getD i true = false) (ht : taq oi a a1) (h : Agree ops (listed.setIfInBounds i true) a1 a2) : Agree ops listed a a2:=by
  intro t hn
  have h1 : a2.tmps[t]? = a1.tmps[t]?:=h t fun m o hm hl=>hn m o hm (by
    by_cases hmi : i = m
    · subst hmi;exact hr
    · rw [getD_set_ne true hmi] at hl;exact hl)
  rw [h1]
  obtain ⟨u,hu⟩:=ht
  rw [hu]
  have:=hn i oi hi hr
  unfold Act.put
  cases hd : oi.dst with
  | none=>rfl
  | some d =>
    have hne : d ≠ t:=fun e=>this (by rw [hd,e])
    simp [Array.getElem?_setIfInBounds_ne hne]
theorem tg5 (hQ : Shut Q) : ∀ (fuel : Nat) (listed : Array Bool) (a : Act) (w : World),wpAny P md ops Q fuel listed a w → ∃ a' w',Q .normal a' w' ∧ Agree ops listed a a':=by
  intro fuel
  induction fuel with
  | zero=>intro listed a w h;exact ⟨a,w,h.2,fun _ _=>rfl⟩
  | succ fuel ih =>
    intro listed a w h
    cases hr : Region.ready md ops listed with
    | nil=>exact ⟨a,w,h.1 hr,fun _ _=>rfl⟩
    | cons i rest =>
      have hi : i ∈ Region.ready md ops listed:=by rw [hr];simp
      obtain ⟨hun,oi,hoi,_⟩:=mem_ready.1 hi
      obtain ⟨a1,w1,hk,ht⟩:=t3c hQ hoi (t2w hoi (h.2 i hi))
      obtain ⟨a2,w2,hq,hag⟩:=ih _ _ _ hk
      exact ⟨a2,w2,hq,t6f hoi hun ht hag⟩
theorem t7h (hs : ssa md ops = true) {listed : Array Bool} {a a' : Act} (hf : fin P ops a' = true) (hag : Agree ops listed a a') {k : Nat} {o : Oper} (hk : ops[k]? = some o) (hr : k ∈ Region.ready md ops listed) :
    cls P o.op = 0 → Region.wanted o (yielded ops a.tmps) = true → okAt a.eval o.op = true:=by
  intro hc hw
  cases hfl : t5q o.op with
  | false=>exact tg2 hfl
  | true =>
  obtain ⟨_,o',ho',hall⟩:=mem_ready.1 hr
  obtain rfl : o' = o:=by rw [hk] at ho';exact (Option.some.inj ho').symm
  have hsame : ∀ t ∈ o'.looksAt ops,a'.tmps[t]? = a.tmps[t]?:=fun t ht=>hag t fun m om hm hl hd=>by
    obtain ⟨e,he,hb,rfl⟩:=thn hs hk hm hfl hd ht
    have:=hall e he hb
    rcases Nat.lt_or_ge e.on listed.size with h' | h'
    · simp [h'] at this hl;rw [this] at hl;cases hl
    · simp [Array.getElem?_eq_none h'] at this
  have hev : ∀ x ∈ o'.op.operands,a'.eval x = a.eval x:=fun x hx=>by
    cases x with
    | tmp t =>
      have : t ∈ o'.looksAt ops:=List.mem_append_left _ (List.mem_filterMap.2 ⟨.tmp t,by simpa using hx,rfl⟩)
      simp [Act.eval,Array.getD_eq_getD_getElem?,hsame t this]
    | _=>rfl
  have hy : Region.wanted o' (yielded ops a'.tmps) = Region.wanted o' (yielded ops a.tmps):=by
    unfold Region.wanted
    cases hg : o'.guard with
    | none=>rfl
    | some gw =>
      obtain ⟨g,want⟩:=gw
      have : yielded ops a'.tmps g = yielded ops a.tmps g:=by
        unfold yielded
        cases ht : (ops[g]?).bind (·.dst) with
        | none=>rfl
        | some t =>
          have : t ∈ o'.looksAt ops:=by simp [Oper.looksAt,hg,ht]
          simp [hsame t this]
      simp only [this]
  simp only [fin,Array.all_eq_true_iff_forall_mem] at hf
  have:=hf o' (Array.mem_of_getElem? hk)
  simp only [hc,hy,hw,bne_self_eq_false,Bool.not_true,Bool.or_false,Bool.false_or] at this
  rw [t7z o'.op hev] at this
  exact this
structure Inv (md : Region.Mode) (ops : Array Oper) (listed : Array Bool) (i : Nat) (D : Array Bool) : Prop where
  un : ∀ j,D.getD j false = true → listed.getD j true = false
  edge : ∀ j,D.getD j false = true → ∃ o e,ops[j]? = some o ∧ e ∈ o.after ∧ Region.binds md e = true ∧ (e.on = i ∨ D.getD e.on false = true)
theorem Inv.out {listed : Array Bool} {i : Nat} {D : Array Bool} (h : Inv md ops listed i D) (hi : listed.getD i true = false) {j : Nat} (hj : j ∈ Region.ready md ops listed) : D.getD j false = false:=by
  cases hD : D.getD j false with
  | false=>rfl
  | true =>
    obtain ⟨o,e,ho,he,hb,hon⟩:=h.edge j hD
    obtain ⟨_,o',ho',hall⟩:=mem_ready.1 hj
    obtain rfl : o' = o:=by rw [ho] at ho';exact (Option.some.inj ho').symm
    have hl:=hall e he hb
    have hx : listed.getD e.on true = false:=by
      rcases hon with h1 | h1
      · rw [h1];exact hi
      · exact h.un _ h1
    rcases Nat.lt_or_ge e.on listed.size with h' | h'
    · simp [h'] at hx hl;rw [hx] at hl;cases hl
    · simp [Array.getElem?_eq_none h'] at hl
theorem td1 {i : Nat} {oi : Oper} {D : Array Bool} (hQ : Shut Q) (hfin : ∀ a w,Q .normal a w → fin P ops a = true) (hs : ssa md ops = true) (hi : ops[i]? = some oi) (hsel : ∀ (j : Nat) (o : Oper) cs b,ops[j]? = some o → o.op ≠ .select cs b) :
    ∀ (fuel : Nat) (listed : Array Bool) (a : Act) (w : World),Inv md ops listed i D →
      (∀ j oj,ops[j]? = some oj → j ≠ i → listed.getD j true = false → D.getD j false = false → oi.apart ops oj = true ∧ comm P oi.op oj.op = true) →
      i ∈ Region.ready md ops listed →
      wpOp P ops Q i (wpAny P md ops Q fuel (listed.setIfInBounds i true)) a w → wpAny P md ops Q (fuel + 1) listed a w:=by
  intro fuel
  induction fuel with
  | zero =>
    intro listed a w _ _ hr H
    refine ⟨fun h=>(by rw [h] at hr;cases hr),fun j hj=>?_⟩
    by_cases hji : j = i
    · subst hji;exact H
    · have h1:=ready_mono hj hji
      obtain ⟨a1,w1,h2⟩:=t3c hQ hi H
      rw [h2.1] at h1
      cases h1
  | succ fuel ih =>
    intro listed a w hinv hfree hr H
    refine ⟨fun h=>(by rw [h] at hr;cases hr),fun j hj=>?_⟩
    by_cases hji : j = i
    · subst hji;exact H
    · have hun:=(mem_ready.1 hr).1
      obtain ⟨hjun,oj,hoj,hall⟩:=mem_ready.1 hj
      have hDj:=hinv.out hun hj
      obtain ⟨hap,hco⟩:=hfree j oj hoj hji hjun hDj
      obtain ⟨a1,w1,hk1,ht1⟩:=t3c hQ hi (t2w hi H)
      obtain ⟨a2,w2,hq2,hag⟩:=tg5 hQ _ _ _ _ hk1
      have hag':=t6f hi hun ht1 hag
      have hf2:=hfin _ _ hq2
      have H2 : wpOp P ops Q i (wpOp P ops Q j (wpAny P md ops Q fuel ((listed.setIfInBounds i true).setIfInBounds j true))) a w :=
        wpOp_mono (fun a' w' h=>h.2 j (ready_mono hj hji)) H
      have H3:=swap hQ hi hoj hap (fun cs b=>hsel i oi cs b hi) (fun cs b=>hsel j oj cs b hoj) hco (t7h hs hf2 hag' hi hr) (t7h hs hf2 hag' hoj hj) H2
      refine wpOp_mono (fun a' w' h3=>ih (listed.setIfInBounds j true) a' w' ⟨fun k hk=>?_,hinv.edge⟩ (fun k ok hk hki hkun hD=>?_) (ready_mono hr (Ne.symm hji)) ?_) H3
      · have hne : j ≠ k:=fun e=>by rw [e,hk] at hDj;cases hDj
        rw [getD_set_ne true hne];exact hinv.un k hk
      · refine hfree k ok hk hki ?_ hD
        by_cases hjk : j = k
        · subst hjk;exact hjun
        · rw [getD_set_ne true hjk] at hkun;exact hkun
      · rw [Array.setIfInBounds_comm _ _ hji]
        exact h3
def maskL : List Nat → Nat
  | []=>0
  | t :: l=>maskL l ||| 2 ^ t
theorem t6c (l : List Nat) (d : Nat) : (maskL l).testBit d = true ↔ d ∈ l:=by
  induction l with
  | nil=>simp [maskL]
  | cons t l ih=>simp only [maskL,Nat.testBit_or,Nat.testBit_two_pow,Bool.or_eq_true,ih,decide_eq_true_eq,List.mem_cons];exact ⟨fun h=>h.elim .inr (fun h=>.inl h.symm),fun h=>h.elim (fun h=>.inr h.symm) .inl⟩
theorem t6q {a b d : Nat} (ha : a.testBit d = true) (hb : b.testBit d = true) : (a &&& b) ≠ 0:=fun h=>by
  have : (a &&& b).testBit d = true:=by simp [Nat.testBit_and,ha,hb]
  rw [h] at this
  simp at this
theorem td2 {a b : Nat} (h : (a &&& b) ≠ 0) : ∃ d,a.testBit d = true ∧ b.testBit d = true:=by
  obtain ⟨d,hd⟩:=Nat.exists_testBit_of_ne_zero h
  rw [Nat.testBit_and,Bool.and_eq_true] at hd
  exact ⟨d,hd⟩
structure Info where
  am : Nat
  lm : Nat
  dm : Nat
  c : Nat
  fl : Bool
def info (P : Program) (md : Region.Mode) (ops : Array Oper) (o : Oper) : Info :=
  { am:=maskL ((o.after.toList.filter (Region.binds md ·)).map (·.on)),lm:=maskL (o.looksAt ops),dm:=maskL o.dst.toList,c:=cls P o.op,fl:=t5q o.op }
def commI (a b : Nat) : Bool:=a == 0 || b == 0 || (a == 1 && b == 1)
def td3 (x y : Info) : Bool:=(x.dm &&& y.lm) == 0 && (x.dm &&& y.dm) == 0 && (y.dm &&& x.lm) == 0 && commI x.c y.c
def walkI (x : Info) (k : Nat) : List Info → Nat → Nat → Bool
  | [],_,_=>true
  | y :: rest,j,D=>if (y.am &&& (D ||| 2 ^ k)) != 0 then walkI x k rest (j + 1) (D ||| 2 ^ j) else td3 x y && walkI x k rest (j + 1) D
def chkI : List Info → Nat → Bool
  | [],_=>true
  | x :: rest,k=>decide (x.am < 2 ^ k) && walkI x k rest (k + 1) 0 && chkI rest (k + 1)
def ssaI (l : List Info) : Bool:=l.all fun x=>!x.fl || (go x l 0)
where
  go (x : Info) : List Info → Nat → Bool
    | [],_=>true
    | y :: rest,m=>((y.dm &&& x.lm) == 0 || (x.am &&& 2 ^ m) != 0) && go x rest (m + 1)
def lexF (P : Program) (ops : List Oper) : Bool :=
  Region.noSelect ops.toArray && ssaI (ops.map (info P .any ops.toArray)) && chkI (ops.map (info P .any ops.toArray)) 0
theorem am_spec {o : Oper} {m : Nat} : (info P md ops o).am.testBit m = true ↔ ∃ e ∈ o.after,Region.binds md e = true ∧ e.on = m:=by
  simp only [info,t6c,List.mem_map,List.mem_filter,Array.mem_toList_iff]
  constructor
  · rintro ⟨e,⟨h1,h2⟩,h3⟩;exact ⟨e,h1,h2,h3⟩
  · rintro ⟨e,h1,h2,h3⟩;exact ⟨e,⟨h1,h2⟩,h3⟩
theorem lm_spec {o : Oper} {d : Nat} : (info P md ops o).lm.testBit d = true ↔ d ∈ o.looksAt ops:=by simp only [info,t6c]
theorem dm_spec {o : Oper} {d : Nat} : (info P md ops o).dm.testBit d = true ↔ o.dst = some d:=by simp only [info,t6c,Option.mem_toList]
theorem te9 {x y : Oper} (h : td3 (info P md ops x) (info P md ops y) = true) : x.apart ops y = true ∧ comm P x.op y.op = true:=by
  simp only [td3,Bool.and_eq_true,beq_iff_eq] at h
  obtain ⟨⟨⟨h1,h2⟩,h3⟩,h4⟩:=h
  refine ⟨?_,h4⟩
  unfold Oper.apart
  rw [Bool.and_eq_true]
  constructor
  · split
    · rename_i d hd
      have hx:=(dm_spec (P:=P) (md:=md) (ops:=ops) (o:=x)).2 hd
      rw [Bool.and_eq_true]
      constructor
      · rw [Bool.not_eq_true',List.contains_eq_mem,decide_eq_false_iff_not]
        exact fun hm=>t6q hx ((lm_spec (P:=P) (md:=md)).2 hm) h1
      · rw [bne_iff_ne]
        exact fun hy=>t6q hx ((dm_spec (P:=P) (md:=md) (ops:=ops)).2 hy) h2
    · rfl
  · split
    · rename_i d hd
      have hy:=(dm_spec (P:=P) (md:=md) (ops:=ops) (o:=y)).2 hd
      rw [Bool.not_eq_true',List.contains_eq_mem,decide_eq_false_iff_not]
      exact fun hm=>t6q hy ((lm_spec (P:=P) (md:=md)).2 hm) h3
    · rfl
theorem tbm {x : Oper} : ∀ (l : List Oper) (m0 : Nat),ssaI.go (info P md ops x) (l.map (info P md ops)) m0 = true → ∀ j y,l[j]? = some y → ∀ d,y.dst = some d → d ∈ x.looksAt ops → ∃ e ∈ x.after,Region.binds md e = true ∧ e.on = m0 + j
  | [],_,_,j,y,hj,_,_,_=>by simp at hj
  | z :: l,m0,h,j,y,hj,d,hd,hl=>by
    simp only [List.map_cons,ssaI.go,Bool.and_eq_true,Bool.or_eq_true,beq_iff_eq,bne_iff_ne] at h
    cases j with
    | zero =>
      simp at hj
      subst hj
      rcases h.1 with h1 | h1
      · exact absurd h1 (t6q (dm_spec.2 hd) (lm_spec.2 hl))
      · obtain ⟨m,hm1,hm2⟩:=td2 h1
        rw [Nat.testBit_two_pow,decide_eq_true_eq] at hm2
        subst hm2
        exact am_spec.1 hm1
    | succ j =>
      obtain ⟨e,he,hb,hon⟩:=tbm l (m0 + 1) h.2 j y (by simpa using hj) d hd hl
      exact ⟨e,he,hb,by omega⟩
theorem tbx {l : List Oper} (h : ssaI (l.map (info P md l.toArray)) = true) : ssa md l.toArray = true:=by
  simp only [ssaI,List.all_eq_true] at h
  simp only [ssa,List.all_eq_true,List.mem_range]
  intro k hk m hm
  have hk' : k < l.length:=by simpa using hk
  have hm' : m < l.length:=by simpa using hm
  simp only [List.getElem?_toArray,List.getElem?_eq_getElem hk',List.getElem?_eq_getElem hm']
  cases hfl : t5q (l[k]).op with
  | false=>rfl
  | true =>
  rw [Bool.not_true,Bool.false_or]
  split
  · rename_i d hd
    by_cases hl : d ∈ (l[k]).looksAt l.toArray
    · have h1:=h (info P md l.toArray l[k]) (List.mem_map.2 ⟨_,List.getElem_mem hk',rfl⟩)
      rw [show (info P md l.toArray l[k]).fl = true from hfl,Bool.not_true,Bool.false_or] at h1
      obtain ⟨e,he,hb,hon⟩:=tbm l 0 h1 m l[m] (List.getElem?_eq_getElem hm') d hd hl
      rw [Bool.or_eq_true]
      right
      exact Array.any_eq_true'.2 ⟨e,he,by simp [hb];omega⟩
    · simp [hl]
  · rfl
theorem t8a {x : Oper} {k : Nat} : ∀ (l : List Oper) (j0 D : Nat),walkI (info P md ops x) k (l.map (info P md ops)) j0 D = true →
    (∀ j,D.testBit j = true → j < j0) →
    ∃ D' : Nat,(∀ j : Nat,D.testBit j = true → D'.testBit j = true) ∧ (∀ j : Nat,D'.testBit j = true → D.testBit j = true ∨ j0 ≤ j) ∧
      (∀ (j : Nat) (y : Oper),l[j]? = some y → D'.testBit (j0 + j) = true → ∃ e ∈ y.after,Region.binds md e = true ∧ (e.on = k ∨ D'.testBit e.on = true)) ∧
      (∀ j : Nat,D'.testBit j = true → D.testBit j = true ∨ ∃ (i : Nat) (y : Oper),l[i]? = some y ∧ j = j0 + i) ∧
      (∀ (j : Nat) (y : Oper),l[j]? = some y → D'.testBit (j0 + j) = false → x.apart ops y = true ∧ comm P x.op y.op = true)
  | [],j0,D,_,_=>⟨D,fun _ h=>h,fun _ h=>.inl h,fun j y h=>by simp at h,fun _ h=>.inl h,fun j y h=>by simp at h⟩
  | z :: l,j0,D,h,hD=>by
    simp only [List.map_cons,walkI] at h
    split at h
    · rename_i hne
      rw [bne_iff_ne] at hne
      obtain ⟨m,hm1,hm2⟩:=td2 hne
      have hD2 : ∀ j,(D ||| 2 ^ j0).testBit j = true → j < j0 + 1:=fun j hj=>by
        rw [Nat.testBit_or,Nat.testBit_two_pow,Bool.or_eq_true,decide_eq_true_eq] at hj
        rcases hj with hj | hj
        · have:=hD j hj;omega
        · omega
      obtain ⟨D',g1,g2,g3,g4,g5⟩:=t8a l (j0 + 1) (D ||| 2 ^ j0) h hD2
      have sub : ∀ j,D.testBit j = true → D'.testBit j = true:=fun j hj=>g1 j (by simp [Nat.testBit_or,hj])
      have hj0 : D'.testBit j0 = true:=g1 j0 (by simp [Nat.testBit_or])
      refine ⟨D',sub,fun j hj=>?_,fun j y hy hj=>?_,fun j hj=>?_,fun j y hy hj=>?_⟩
      · rcases g2 j hj with h1 | h1
        · rw [Nat.testBit_or,Nat.testBit_two_pow,Bool.or_eq_true,decide_eq_true_eq] at h1
          rcases h1 with h1 | h1
          · exact .inl h1
          · exact .inr (by omega)
        · exact .inr (by omega)
      · cases j with
        | zero =>
          simp at hy
          subst hy
          obtain ⟨e,he,hb,hon⟩:=am_spec.1 hm1
          refine ⟨e,he,hb,?_⟩
          rw [Nat.testBit_or,Nat.testBit_two_pow,Bool.or_eq_true,decide_eq_true_eq] at hm2
          rcases hm2 with h2 | h2
          · exact .inr (sub _ (by rw [hon];exact h2))
          · exact .inl (by omega)
        | succ j=>exact g3 j y (by simpa using hy) (by rw [← hj];congr 1;omega)
      · rcases g4 j hj with h1 | ⟨i,y,hy,rfl⟩
        · rw [Nat.testBit_or,Nat.testBit_two_pow,Bool.or_eq_true,decide_eq_true_eq] at h1
          rcases h1 with h1 | h1
          · exact .inl h1
          · exact .inr ⟨0,z,rfl,by omega⟩
        · exact .inr ⟨i + 1,y,by simpa using hy,by omega⟩
      · cases j with
        | zero=>simp [hj0] at hj
        | succ j=>exact g5 j y (by simpa using hy) (by rw [← hj];congr 1;omega)
    · rename_i hne
      rw [Bool.and_eq_true] at h
      have hp:=te9 h.1
      obtain ⟨D',g1,g2,g3,g4,g5⟩:=t8a l (j0 + 1) D h.2 (fun j hj=>by have:=hD j hj;omega)
      have hnot : D'.testBit j0 = false:=by
        cases hb : D'.testBit j0 with
        | false=>rfl
        | true =>
          rcases g2 j0 hb with h1 | h1
          · have:=hD _ h1;omega
          · omega
      refine ⟨D',g1,fun j hj=>?_,fun j y hy hj=>?_,fun j hj=>?_,fun j y hy hj=>?_⟩
      · rcases g2 j hj with h1 | h1
        · exact .inl h1
        · exact .inr (by omega)
      · cases j with
        | zero=>simp [hnot] at hj
        | succ j=>exact g3 j y (by simpa using hy) (by rw [← hj];congr 1;omega)
      · rcases g4 j hj with h1 | ⟨i,y,hy,rfl⟩
        · exact .inl h1
        · exact .inr ⟨i + 1,y,by simpa using hy,by omega⟩
      · cases j with
        | zero=>simp at hy;subst hy;exact hp
        | succ j=>exact g5 j y (by simpa using hy) (by rw [← hj];congr 1;omega)
structure Listed (n k : Nat) (listed : Array Bool) : Prop where
  size : listed.size = n
  get : ∀ j (h : j < listed.size),listed[j] = decide (j < k)
theorem Listed.t {n k : Nat} {listed : Array Bool} (h : Listed n k listed) (j : Nat) : listed.getD j true = false ↔ j < n ∧ k ≤ j:=by
  rcases Nat.lt_or_ge j listed.size with h' | h'
  · have:=h.get j h'
    have hs:=h.size
    simp [h',this];omega
  · have hs:=h.size
    simp [Array.getElem?_eq_none h'];omega
theorem Listed.f {n k : Nat} {listed : Array Bool} (h : Listed n k listed) (j : Nat) : listed.getD j false = true ↔ j < n ∧ j < k:=by
  rcases Nat.lt_or_ge j listed.size with h' | h'
  · have:=h.get j h'
    have hs:=h.size
    simp [h',this];omega
  · have hs:=h.size
    simp [Array.getElem?_eq_none h'];omega
theorem Listed.next {n k : Nat} {listed : Array Bool} (h : Listed n k listed) : Listed n (k + 1) (listed.setIfInBounds k true):=by
  refine ⟨by simp [h.size],fun j hj=>?_⟩
  have hj' : j < listed.size:=by simpa using hj
  rw [Array.getElem_setIfInBounds hj']
  split
  · simp;omega
  · rw [h.get j (by rw [Array.size_setIfInBounds] at hj;exact hj)];simp;omega
theorem tar {l0 : List Oper} (hQ : Shut Q) (hfin : ∀ a w,Q .normal a w → fin P l0.toArray a = true) (hs : ssa md l0.toArray = true) (hsel : Region.noSelect l0.toArray = true) :
    ∀ (l : List Oper) (k : Nat) (listed : Array Bool) (a : Act) (w : World),Listed l0.length k listed → l0.length = k + l.length → (∀ j,l[j]? = l0[k + j]?) →
    chkI (l.map (info P md l0.toArray)) k = true → wpList P l0.toArray Q l a w → wpAny P md l0.toArray Q l.length listed a w
  | [],k,listed,a,w,hL,hn,_,_,h=>by
    refine ⟨?_,h⟩
    cases hr : Region.ready md l0.toArray listed with
    | nil=>rfl
    | cons i rest =>
      have hi : i ∈ Region.ready md l0.toArray listed:=by rw [hr];simp
      have:=(hL.t i).1 (mem_ready.1 hi).1
      simp at hn
      omega
  | o :: l,k,listed,a,w,hL,hn,hl,hB,h=>by
    have h0 : l0.toArray[k]? = some o:=by simpa using (hl 0).symm
    simp only [List.map_cons,chkI,Bool.and_eq_true,decide_eq_true_eq] at hB
    obtain ⟨⟨ham,hw⟩,hB'⟩:=hB
    have hkn : k < l0.length:=by simp at hn;omega
    have hr : k ∈ Region.ready md l0.toArray listed:=by
      refine mem_ready.2 ⟨(hL.t k).2 ⟨hkn,Nat.le_refl _⟩,o,h0,fun e he hb=>(hL.f _).2 ?_⟩
      have hbit : (info P md l0.toArray o).am.testBit e.on = true:=am_spec.2 ⟨e,he,hb,rfl⟩
      have : e.on < k:=by
        rcases Nat.lt_or_ge e.on k with h' | h'
        · exact h'
        · have : (info P md l0.toArray o).am.testBit e.on = false:=Nat.testBit_lt_two_pow (Nat.lt_of_lt_of_le ham (Nat.pow_le_pow_right (by omega) h'))
          rw [this] at hbit;cases hbit
      omega
    obtain ⟨D',_,_,g3,g4,g5⟩:=t8a l (k + 1) 0 hw (fun j hj=>by simp at hj)
    have hlj : ∀ j y,l0.toArray[j]? = some y → k < j → l[j - (k + 1)]? = some y ∧ j = k + 1 + (j - (k + 1)):=fun j y hy hj=>by
      refine ⟨?_,by omega⟩
      have:=hl (j - (k + 1) + 1)
      rw [show k + (j - (k + 1) + 1) = j by omega] at this
      simp only [List.getElem?_cons_succ] at this
      rw [this];simpa using hy
    let D : Array Bool:=Array.ofFn fun i : Fin l0.length=>D'.testBit i
    have hDt : ∀ j,D.getD j false = true → D'.testBit j = true ∧ j < l0.length:=fun j hj=>by
      rcases Nat.lt_or_ge j l0.length with h' | h'
      · simp [D,h'] at hj;exact ⟨hj,h'⟩
      · simp [D,h'] at hj
    have hDf : ∀ j,j < l0.length → D.getD j false = D'.testBit j:=fun j hj=>by simp [D,hj]
    have hge : ∀ j,D'.testBit j = true → k + 1 ≤ j ∧ j < l0.length:=fun j hj=>by
      rcases g4 j hj with h1 | ⟨i,y,hy,rfl⟩
      · simp at h1
      · have:=(List.getElem?_eq_some_iff.1 hy).1
        simp at hn
        omega
    have hinv : Inv md l0.toArray listed k D:=by
      refine ⟨fun j hj=>(hL.t j).2 ⟨(hDt j hj).2,by have:=hge j (hDt j hj).1;omega⟩,fun j hj=>?_⟩
      obtain ⟨h1,h2⟩:=hDt j hj
      have h3:=hge j h1
      have hy : l0.toArray[j]? = some l0[j]:=by simp [h2]
      obtain ⟨hy',he⟩:=hlj j _ hy (by omega)
      obtain ⟨e,he1,he2,he3⟩:=g3 _ _ hy' (by rw [← he];exact h1)
      refine ⟨l0[j],e,hy,he1,he2,he3.imp id fun h4=>?_⟩
      rw [hDf _ (hge _ h4).2];exact h4
    refine td1 hQ hfin hs h0 (Region.noSelect_spec hsel) l.length listed a w hinv (fun j oj hoj hne hun hD=>?_) hr ?_
    · have hj:=(hL.t j).1 hun
      obtain ⟨hy',he⟩:=hlj j _ hoj (by omega)
      rw [hDf j hj.1] at hD
      exact g5 _ _ hy' (by rw [← he];exact hD)
    · have hst : wpOp P l0.toArray Q k (wpList P l0.toArray Q l) a w:=by unfold wpOp;simp only [h0];exact h
      exact wpOp_mono (fun a' w' h'=>tar hQ hfin hs hsel l (k + 1) _ a' w' hL.next (by simp at hn;omega) (fun j=>by have:=hl (j + 1);simpa [Nat.add_assoc,Nat.add_comm 1 j] using this) hB' h') hst
theorem tfd {Q' : Exit → Act → World → Prop} (hq : ∀ e a w,Q' e a w → Q e a w) {i : Nat} {K : Act → World → Prop} {a : Act} {w : World} (h : wpOp P ops Q' i K a w) : wpOp P ops Q i K a w:=by
  unfold wpOp at *
  split
  · rename_i hn;rw [hn] at h;exact h
  · rename_i o ho
    simp only [ho] at h
    split
    · rename_i hw
      simp only [hw,if_true] at h
      rcases h with h | ⟨h1,a0,w0,h2⟩
      · refine .inl ?_
        unfold Oper.wp at *
        generalize (execOp a.eval o).run P w = r at *
        cases r with
        | ok n w' =>
          cases n <;> simp only [Oper.upon] at h ⊢ <;> try exact h
          exact Calls.mono h fun e w'' he=>by
            cases e with
            | returned v=>exact he
            | panicked c=>exact hq _ _ _ he
            | outgrown=>obtain ⟨a0,w0,h0⟩:=he;exact ⟨a0,w0,hq _ _ _ h0⟩
        | halt x w'=>cases x <;> simp only [Oper.upon] at h ⊢;exact hq _ _ _ h
      · exact .inr ⟨h1,a0,w0,hq _ _ _ h2⟩
    · rename_i hw
      simp only [hw] at h
      exact h
theorem t7g {Q' : Exit → Act → World → Prop} (hq : ∀ e a w,Q' e a w → Q e a w) : ∀ (fuel : Nat) (listed : Array Bool) (a : Act) (w : World),wpAny P md ops Q' fuel listed a w → wpAny P md ops Q fuel listed a w
  | 0,_,_,_,h=>⟨h.1,hq _ _ _ h.2⟩
  | fuel + 1,_,_,_,h=>⟨fun h0=>hq _ _ _ (h.1 h0),fun i hi=>wpOp_mono (fun _ _=>t7g hq fuel _ _ _) (tfd hq (h.2 i hi))⟩
theorem tcp {id : Nat} {a : Act} {w : World} {l : List Oper} (hm : P.follows .mixedOrders = true) (hB : lexF P l = true)
    (h : wpList P l.toArray (Exit.then (fun a w=>fin P l.toArray a = true ∧ Q .normal a w) (fun _ _ _=>False)) l a w.drew) : (Code.region id l.toArray true).wp P Q a w:=by
  simp only [lexF,Bool.and_eq_true] at hB
  refine wp_region_any hm (t7g (Q':=Exit.then (fun a w=>fin P l.toArray a = true ∧ Q .normal a w) (fun _ _ _=>False)) (fun e a w hx=>?_) _ _ _ _ ?_)
  · cases e <;> first | exact hx.2 | exact hx.elim
  · have:=tar (P:=P) (md:=.any) (l0:=l) (Q:=Exit.then (fun a w=>fin P l.toArray a = true ∧ Q .normal a w) (fun _ _ _=>False)) ⟨fun c a w hx=>hx,fun a w hx=>hx⟩ (fun a w hx=>hx.1) (tbx hB.1.2) hB.1.1 l 0 (Array.replicate l.length false) a w.drew
      ⟨by simp,fun j hj=>by simp⟩ (by simp) (by simp) hB.2 h
    simpa using this
theorem tk3 {a : Act} {R : Prop} (h : fin P ops a = true) (k : R) : fin P ops a = true ∧ R:=⟨h,k⟩
end
end Go.Lex
