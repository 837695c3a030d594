/- A region that draws its order, within a round of a range over a function: one walk serves every order. No program in sight. -/
import Derived.Sort.QuietIn
import Derived.RangeFuncBound
import Derived.RangeFuncCalls
import Derived.RangeFuncLeaves
import Derived.RangeFuncNested
import Derived.Test.YtpodeccpibnlbaaGreatDoorG21
namespace Go.Proofs.YtpodeccpibnlbaaGreatDoor
set_option linter.unusedVariables false
set_option linter.unusedSimpArgs false
open Go.RowKit
def noDefer (ops : Array Oper) : Bool := ops.all fun o => match o.op with | .defer _ => false | _ => true
theorem noDefer_spec {ops : Array Oper} (h : noDefer ops = true) (i : Nat) (o : Oper) (ho : ops[i]? = some o) (c : Call) : o.op ≠ .defer c := by
  intro hc
  unfold noDefer at h
  rw [Array.all_eq_true] at h
  obtain ⟨hi, rfl⟩ := Array.getElem?_eq_some_iff.1 ho
  have := h i hi
  rw [hc] at this
  cases this
theorem wpOpsIn_inRound {F : Fence} {n : Nat} {P : Program} {ops : Array Oper} {Q : Exit → Act → World → Prop} (hro : F.round = none) (l : Nat) (hd : noDefer ops = true) :
    ∀ (L : List Nat) (a : Act) (w : World), wpOpsIn F n P ops Q L a w → wpOpsIn (F.inRound l) n P ops Q L a w
  | [], _, _, h => h
  | i :: rest, a, w, h => by
    simp only [wpOpsIn] at h ⊢
    cases ho : ops[i]? with
    | none =>
      simp only [ho] at h ⊢
      exact wpOpsIn_inRound hro l hd rest a w h
    | some o =>
      simp only [ho] at h ⊢
      by_cases hw : Region.wanted o (yielded ops a.tmps) = true
      · simp only [hw, if_true] at h ⊢
        have h2 := Oper.wpIn_mono (K' := wpOpsIn (F.inRound l) n P ops Q rest) (fun a w h => wpOpsIn_inRound hro l hd rest a w h) h
        unfold Oper.wpIn at h2 ⊢
        refine ⟨h2.1, ?_⟩
        have h3 := h2.2
        rw [hro, Oper.semAt_none] at h3
        rw [Fence.inRound_round, Oper.semAt_eq _ _ _ (noDefer_spec hd i o ho)]
        exact h3
      · simp only [hw] at h ⊢
        exact ⟨h.1, wpOpsIn_inRound hro l hd rest _ w h.2⟩
/-- As wpIn_region_quiet, within a round. -/
theorem wpIn_region_quiet_round {F : Fence} {n : Nat} {P : Program} {ops : Array Oper} {C : World → Prop} {id : Nat} {Q : Exit → Act → World → Prop} {a : Act} {w : World} {l : Nat} (hro : F.round = none) (hd : noDefer ops = true) (hm : P.follows .mixedOrders = true) (hB : Region.lexB .any ops = true) (hC : C { w with drawn := w.drawn + 1 })
    (h : wpQuietIn F n P ops C (fun a' => ∀ w', C w' → Q .normal a' w') ops.toList a) : (Code.region id ops true).wpIn (F.inRound l) n P Q a w := by
  simp only [Region.lexB, Bool.and_eq_true] at hB
  refine wpIn_region_draw fun t => ?_
  simp only [Region.schedule, hm, Bool.true_or, if_true]
  refine wpOpsIn_inRound hro l hd _ _ _ (wpAnyIn_sound ops.size t _ a _ (wpAnyIn_of_quiet (Q := fun a' => ∀ w', C w' → Q .normal a' w') hro (fun _ w' hw' h => h w' hw') _ _ _ _ hC ?_))
  have := wpAnyQIn_lex (F := F) (n := n) (C := C) (md := .any) hB.1 ops.toList 0 (Array.replicate ops.size false) a (by simp) (by simpa using hB.2) h
  simpa using this
theorem KeepsOthers.of_mod {w w' : World} (h : Mod (fun _ => False) w w') : KeepsOthers w w' := by
  exact ⟨h.size, fun k o hk ho => (h.block k (Array.getElem?_eq_some_iff.1 hk).1 (fun h => h)).trans hk⟩
end Go.Proofs.YtpodeccpibnlbaaGreatDoor
