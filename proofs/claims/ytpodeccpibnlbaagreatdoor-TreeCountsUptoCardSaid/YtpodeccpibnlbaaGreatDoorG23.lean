/- What alive's calls answer, as plain facts; the program's blocks, changed. -/
import Derived.Test.YtpodeccpibnlbaaGreatDoorG20
import Derived.Test.YtpodeccpibnlbaaGreatDoorG18
import Derived.Test.YtpodeccpibnlbaaGreatDoorG19
import Derived.Test.YtpodeccpibnlbaaGreatDoorG10
import Derived.Test.YtpodeccpibnlbaaGreatDoorG16
import Derived.Test.YtpodeccpibnlbaaGreatDoorG22
namespace Go.Proofs.YtpodeccpibnlbaaGreatDoor
set_option linter.unusedVariables false
set_option linter.unusedSimpArgs false
open Go.RowKit

def tStar : ByteArray := { data := #[42] }
def tXSA : ByteArray := { data := #[120, 46, 42, 46, 97] }
def tXDA : ByteArray := { data := #[120, 46, 46, 97] }
def tB1 : ByteArray := { data := #[98, 49] }
def pXSA : Pl := ⟨tX, [tStar, tA]⟩
theorem parts_xsa : partsB tXSA = [tX, tStar, tA] := by decide +kernel
theorem parts_xda : partsB tXDA = [tX, tE, tA] := by decide +kernel
theorem place_xsa : PlaceI tXSA = (pXSA, true) := by
  have h : placeOf tXSA = pXSA := by unfold placeOf headB restB; rw [parts_xsa]; rfl
  unfold PlaceI
  rw [h, if_pos (by decide +kernel)]
theorem place_xda : PlaceI tXDA = (emptyPl, false) := by
  have h : placeOf tXDA = ⟨tX, [tE, tA]⟩ := by unfold placeOf headB restB; rw [parts_xda]; rfl
  unfold PlaceI
  rw [h, if_neg (by decide +kernel)]
theorem text_xsa : textI pXSA = tXSA := by decide +kernel
theorem front_1 : frontP ⟨tX, []⟩ pXSA = true := by decide +kernel
theorem front_2 : frontP pXSA ⟨tX, []⟩ = false := by decide +kernel
theorem equal_1 : equalP pXSA pXSA = true := by decide +kernel
theorem right_1 : rightI (smallP 5 0 vars0) = true := by decide +kernel
theorem right_2 : rightI (smallP 5 0 []) = false := by decide +kernel
theorem same_1 : sameI (smallP 6 0 vars0) (smallP 5 0 vars0) = false := by decide +kernel
theorem same_2 : sameI (smallP 5 9 vars0) (smallP 5 0 vars0) = true := by decide +kernel
theorem same_3 : sameI (smallP 6 0 vars0) (smallP 6 0 vars0) = true := by decide +kernel
theorem find_1 : findI ([] ++ [⟨tX, tInt⟩]) tX = 0 := by decide +kernel
theorem block_1 : blockIx (smallF 0 5).blocks tB1 = -1 := by decide +kernel
theorem uses_len : (blksUses (smallF 0 5).blocks).length = 3 := by decide +kernel

theorem small_set_n {w : World} {b : Nat} {n at_ : Int} {vs : Value} (h : Has w (smallL b n at_ vs)) (m : Int) : Has (w.setCell ⟨b + 8, 4, none⟩ (.int .i64 m)) (smallL b m at_ vs) := by
  have h8 := h.at' (b + 8) _ (by simp [smallL]; rfl)
  intro p hp
  have hp' := hp
  simp only [smallL, List.mem_cons, List.not_mem_nil, or_false] at hp'
  rcases hp' with rfl | rfl | rfl | rfl | rfl | rfl | rfl | rfl | rfl | rfl
  all_goals first
    | exact heap_setCell_far _ (h.at' _ _ (by simp [smallL])) (by omega)
    | exact heap_setCell_same (o := 4) (.int .i64 m) h8
theorem small_set_at {w : World} {b : Nat} {n at_ : Int} {vs : Value} (h : Has w (smallL b n at_ vs)) (m : Int) : Has (w.setCell ⟨b + 11, 0, none⟩ (.int .i64 m)) (smallL b n m vs) := by
  have h8 := h.at' (b + 11) _ (by simp [smallL]; rfl)
  intro p hp
  have hp' := hp
  simp only [smallL, List.mem_cons, List.not_mem_nil, or_false] at hp'
  rcases hp' with rfl | rfl | rfl | rfl | rfl | rfl | rfl | rfl | rfl | rfl
  all_goals first
    | exact heap_setCell_far _ (h.at' _ _ (by simp [smallL])) (by omega)
    | exact heap_setCell_same (o := 0) (.int .i64 m) h8
theorem small_set_vs {w : World} {b : Nat} {n at_ : Int} {vs : Value} (h : Has w (smallL b n at_ vs)) (v : Value) : Has (w.setCell ⟨b + 5, 2, none⟩ v) (smallL b n at_ v) := by
  have h8 := h.at' (b + 5) _ (by simp [smallL]; rfl)
  intro p hp
  have hp' := hp
  simp only [smallL, List.mem_cons, List.not_mem_nil, or_false] at hp'
  rcases hp' with rfl | rfl | rfl | rfl | rfl | rfl | rfl | rfl | rfl | rfl
  all_goals first
    | exact heap_setCell_far _ (h.at' _ _ (by simp [smallL])) (by omega)
    | exact heap_setCell_same (o := 2) v h8

theorem uses_stops (n : Nat) (hn : 3 ≤ n) (C : Nat → Prop) {S : Nat → Prop} {w0 : World} {Bx : Nat} {oc : Option Addr} {lc cc : Nat} {bl : List Blk} (hR : SR S w0 11 (blkV S w0) oc lc cc bl) (hS : ∀ b, S b → ¬ C b) (hC : ∀ k, C k → k < w0.heap.size)
    (hsz : ∀ b ∈ bl, (∀ s ∈ b.stmts, s.args.length + 1 ≤ 1048576) ∧ b.term.args.length + 1 ≤ 1048576) (hBx : w0.cell? ⟨Bx, 5, none⟩ = some (.slice oc lc cc)) :
    SeqStopsK Fence.wide n Tryz.prog 77 #[.pointer (some ⟨Bx, 0, none⟩)] (encU (S := S) (w0 := w0)) (KC C) (fun ys => toP ys = blksUses bl) (fun pre => toP pre <+: blksUses bl) (blksUses bl).length w0 := fun l J Jx W hb hJ _ hY h0 =>
  uses1_in n l Bx hn C J Jx W hJ hR (KC.mod (.of_below hb)) hS hC hsz hY ((Mod.of_below hb).cell' hBx) h0
end Go.Proofs.YtpodeccpibnlbaaGreatDoor
