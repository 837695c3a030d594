/- A region that draws its order and whose first two operations come first in every order, whatever the second one's callee answers. No program in sight. -/
import Derived.BigQuiet
import Derived.Deep.Quiet
import Derived.Test.YtpodeccpibnlbaaGreatDoorG01
namespace Go.Proofs.YtpodeccpibnlbaaGreatDoor
set_option linter.unusedVariables false
set_option linter.unusedSimpArgs false
open Go.RowKit
theorem wanted_none {o : Oper} (h : o.guard = none) (y : Nat → Option Bool) : Region.wanted o y = true := by simp [Region.wanted, h]
theorem wp_region_two {P : Program} {id : Nat} {o0 o1 : Oper} {l : List Oper} {C : World → Prop} {Q : Exit → Act → World → Prop} {a : Act} {w : World} (hm : P.follows .mixedOrders = true) (g0 : o0.guard = none) (g1 : o1.guard = none)
    (r0 : Region.ready .any (o0 :: o1 :: l).toArray (Array.replicate (l.length + 2) false) = [0]) (r1 : Region.ready .any (o0 :: o1 :: l).toArray ((Array.replicate (l.length + 2) false).setIfInBounds 0 true) = [1])
    (hs : Region.noSelect (o0 :: o1 :: l).toArray = true) (hB : Region.lexFrom .any (o0 :: o1 :: l).toArray l.length 2 (((Array.replicate (l.length + 2) false).setIfInBounds 0 true).setIfInBounds 1 true) = true)
    (h : o0.wp P a w.drew (fun a1 w1 => o1.wp P a1 w1 (fun a2 w2 => C w2 ∧ wpQuiet P (o0 :: o1 :: l).toArray C (fun a' => ∀ w', C w' → Q .normal a' w') l a2) Q) Q) :
    (Code.region id (o0 :: o1 :: l).toArray true).wp P Q a w := by
  refine wp_region_any hm ?_
  have last : ∀ a2 w2, (C w2 ∧ wpQuiet P (o0 :: o1 :: l).toArray C (fun a' => ∀ w', C w' → Q .normal a' w') l a2) →
      wpAny P .any (o0 :: o1 :: l).toArray Q l.length (((Array.replicate (l.length + 2) false).setIfInBounds 0 true).setIfInBounds 1 true) a2 w2 := fun a2 w2 h2 =>
    wpAny_of_quiet (Q := fun a' => ∀ w', C w' → Q .normal a' w') (fun _ w' hw' h => h w' hw') _ _ _ _ h2.1 (wpAnyQ_lex hs l 2 _ a2 (fun j => by simp [Nat.add_comm]) hB h2.2)
  have second : ∀ a1 w1, o1.wp P a1 w1 (fun a2 w2 => C w2 ∧ wpQuiet P (o0 :: o1 :: l).toArray C (fun a' => ∀ w', C w' → Q .normal a' w') l a2) Q →
      wpAny P .any (o0 :: o1 :: l).toArray Q (l.length + 1) ((Array.replicate (l.length + 2) false).setIfInBounds 0 true) a1 w1 := fun a1 w1 h1 => by
    refine ⟨fun h => (by rw [r1] at h; cases h), fun i hi => ?_⟩
    rw [r1] at hi
    simp only [List.mem_singleton] at hi
    subst hi
    unfold wpOp
    simp only [List.getElem?_toArray, List.getElem?_cons_succ, List.getElem?_cons_zero, wanted_none g1, if_true]
    exact Or.inl (Oper.wp_mono last h1)
  show wpAny P .any (o0 :: o1 :: l).toArray Q (l.length + 2) (Array.replicate (l.length + 2) false) a w.drew
  refine ⟨fun h => (by rw [r0] at h; cases h), fun i hi => ?_⟩
  rw [r0] at hi
  simp only [List.mem_singleton] at hi
  subst hi
  unfold wpOp
  simp only [List.getElem?_toArray, List.getElem?_cons_zero, wanted_none g0, if_true]
  exact Or.inl (Oper.wp_mono second h)
end Go.Proofs.YtpodeccpibnlbaaGreatDoor
