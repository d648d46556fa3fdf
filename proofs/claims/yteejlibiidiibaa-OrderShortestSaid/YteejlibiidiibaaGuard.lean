/-
  Cheap guards ahead of the arms: 'with_reducible refine at_x ?_' fails at once where the goal has another head (an arm's own 'by' blocks are run even where its type does not fit).
-/
import Derived.Test.YteejlibiidiibaaLexK
namespace Go.Lex
open Go
theorem at_region {P : Program} {Q : Exit → Act → World → Prop} {id : Nat} {ops : Array Oper} {a : Act} {w : World} (h : (Code.region id ops true).wp P Q a w) : (Code.region id ops true).wp P Q a w := h
theorem at_fin {P : Program} {ops : Array Oper} {a : Act} {R : Prop} (h : Lex.fin P ops a = true ∧ R) : Lex.fin P ops a = true ∧ R := h
theorem at_finK {Kp : Nat → Prop} {P : Program} {ops : Array Oper} {a b : Act} {R : Prop} {lf k : Nat} {w : World} {l : List Oper} (h : Lex.fin P ops a = true ∧ LexK.finL Kp lf ops w b l k ∧ R) : Lex.fin P ops a = true ∧ LexK.finL Kp lf ops w b l k ∧ R := h
theorem at_wpX {Kp : Nat → Prop} {P : Program} {ops : Array Oper} {Q : Exit → Act → World → Prop} {l : List Oper} {a : Act} {w : World} (h : LexK.wpX Kp P ops Q l a w) : LexK.wpX Kp P ops Q l a w := h
theorem at_ext {Kp : Nat → Prop} {w w' : World} {R : Prop} (h : LexK.Ext Kp w w' ∧ R) : LexK.Ext Kp w w' ∧ R := h
end Go.Lex
