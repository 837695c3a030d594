/- The reference's answers are tree's own, as plain functions. No program in sight. -/
import Derived.Test.YtpodeccpibnlbaaGreatDoorG44
namespace Go.Proofs.YtpodeccpibnlbaaGreatDoor
set_option linter.unusedVariables false
set_option linter.unusedSimpArgs false

def leastT (k : Nat) : Nat := [0, 0, 1, 1, 0, 0, 0, 1].getD k 0
def argsT (k : Nat) : Nat := [0, 0, 1, 1, 0, 16, 16, 1].getD k 0
def blocksT (k : Nat) : Nat := [0, 1, 2, 0, 1, 1, 1, 0].getD k 0
theorem stmtR_eq (s : Stm) : stmtR s = stmtI s := by
  obtain ⟨pos, kind, dest, n, name, variant, args⟩ := s
  by_cases h : 1 ≤ kind ∧ kind ≤ 11
  · have h2 : kind = 1 ∨ kind = 2 ∨ kind = 3 ∨ kind = 4 ∨ kind = 5 ∨ kind = 6 ∨ kind = 7 ∨ kind = 8 ∨ kind = 9 ∨ kind = 10 ∨ kind = 11 := by omega
    clear h
    unfold stmtR stmtI placesOk stmtShapeI fitsI
    rcases h2 with rfl | rfl | rfl | rfl | rfl | rfl | rfl | rfl | rfl | rfl | rfl
    all_goals
      simp [leastR, mostR, namedI]
      generalize placeI dest = a
      generalize noneI dest = a'
      generalize args.all placeI = b
      generalize emp name = c
      generalize emp variant = d
      generalize isName (lst name) = e
      generalize isName (lst variant) = f
      cases a <;> cases a' <;> cases b <;> cases c <;> cases d <;> cases e <;> cases f <;> simp <;> (try grind)
  · unfold stmtR stmtI stmtShapeI
    have e1 : (decide (1 ≤ kind) && decide (kind ≤ 11)) = false := by
      by_cases h3 : 1 ≤ kind
      · by_cases h4 : kind ≤ 11
        · exact absurd ⟨h3, h4⟩ h
        · simp [h4]
      · simp [h3]
    dsimp only
    rw [e1]
    repeat rw [if_neg (by omega)]
    simp
theorem fieldI_eq : varOk true false = fieldI := by
  funext v
  simp [varOk, fieldI]
theorem variantI_eq : varOk true true = variantI := by
  funext v
  simp [varOk, variantI, Bool.or_comm]
theorem localI_eq : varOk false false = localI := by
  funext v
  simp [varOk, localI]
def nmOk (s : ByteArray) : Bool := isName (lst s)
def termR (t : Trm) : Bool := decide (1 ≤ t.kind) && decide (t.kind ≤ 7) && decide (t.blocks.length = blocksT t.kind.toNat) && placesOk t.args (leastT t.kind.toNat) (argsT t.kind.toNat) && namedI t.name (decide (t.kind = 5) || decide (t.kind = 6)) && (if t.kind = 5 ∨ t.kind = 6 then placeI t.dest else noneI t.dest) && t.blocks.all nmOk && t.arms.all armI && (if t.kind = 3 then decide (1 ≤ t.arms.length) && decide (t.arms.length ≤ 16) else decide (t.arms.length = 0))
theorem termR_eq (t : Trm) : termR t = termI t := by
  obtain ⟨pos, kind, dest, name, args, blocks, arms⟩ := t
  by_cases h : 1 ≤ kind ∧ kind ≤ 7
  · have h2 : kind = 1 ∨ kind = 2 ∨ kind = 3 ∨ kind = 4 ∨ kind = 5 ∨ kind = 6 ∨ kind = 7 := by omega
    clear h
    unfold termR termI placesOk termShapeI fitsI
    have e : (fun s => isName (lst s)) = nmOk := rfl
    rcases h2 with rfl | rfl | rfl | rfl | rfl | rfl | rfl
    all_goals
      simp [leastT, argsT, blocksT, namedI, e]
      generalize placeI dest = a
      generalize noneI dest = a'
      generalize args.all placeI = b
      generalize emp name = c
      generalize isName (lst name) = d
      generalize arms.all armI = f
      generalize blocks.all nmOk = g
      cases a <;> cases a' <;> cases b <;> cases c <;> cases d <;> cases f <;> cases g <;> simp <;> (try grind)
  · unfold termR termI termShapeI
    have e1 : (decide (1 ≤ kind) && decide (kind ≤ 7)) = false := by
      by_cases h3 : 1 ≤ kind
      · by_cases h4 : kind ≤ 7
        · exact absurd ⟨h3, h4⟩ h
        · simp [h4]
      · simp [h3]
    dsimp only
    rw [e1]
    repeat rw [if_neg (by omega)]
    simp
end Go.Proofs.YtpodeccpibnlbaaGreatDoor
