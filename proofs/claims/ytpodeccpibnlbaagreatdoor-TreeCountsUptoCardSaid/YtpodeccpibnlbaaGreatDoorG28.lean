/- What the rows' condition gives: the library's table of blanks; what the start gives: a number in the first variable; and a start that meets the condition. -/
import Derived.Test.YtpodeccpibnlbaaGreatDoorRows
import Derived.Test.YtpodeccpibnlbaaGreatDoorG02
import Derived.ProofKit
import Derived.LaidMore
import Derived.OpenShut
import Derived.Stop.Joined
import Derived.Lib.LaidCaseMet
import Derived.LaidLaws
namespace Go.Proofs.YtpodeccpibnlbaaGreatDoor
set_option linter.unusedVariables false
set_option linter.unusedSimpArgs false
open Go.ChangeShapes Go.WideShapes Go.ChangeAt Go.WideMaps Go.WideElems Go.RowKit

theorem own : ownKnob Tryz.prog.godebug = none := by kernel_rfl
theorem laidOut : laidOutB Tryz.prog = true := by kernel_rfl

abbrev laid4 : List (String × DataW Unit) := [("unicode/utf8.acceptRanges", Rows.laid_unicode_utf8_acceptRanges), ("unicode.White_Space", Rows.laid_unicode_White_Space), ("strings.asciiSpace", Rows.laid_strings_asciiSpace), ("unicode/utf8.first", Rows.laid_unicode_utf8_first)]

set_option maxRecDepth 100000 in
theorem space_is : (Rows.laid_strings_asciiSpace : DataW Unit) = Lib.tabData .u8 Lib.asciiSpaceTab := by rfl

theorem cell_at0 {w : World} {cs : Array Value} {t : TypeId} {v : Value} (h : w.heap[0]? = some (.cells cs t (0, 0))) (hv : cs[0]? = some v) : w.cell? ⟨0, 0, none⟩ = some v := by simp [World.cell?, h, hv]
set_option maxRecDepth 100000 in
theorem maxlen_of {W : World} (h : W.ShapedOpen Tryz.prog) : ∃ m, W.cell? ⟨0, 0, none⟩ = some (.int .i64 m) := by
  have h0 : ∃ z, (((begin Tryz.prog (fun _ _ => 0) default).world.heap[0]?).bind Obj.row? = some (z, 3)) ∧ z.size = 1 := ⟨#[.int .i64 0], by kernel_rfl, rfl⟩
  obtain ⟨z, hz, hz1⟩ := h0
  obtain ⟨cs, h1, h2, h3⟩ := h.1 0 z 3 (by decide +kernel) hz
  obtain ⟨ts, t1, t2, t3⟩ := h3 (by kernel_rfl)
  have ht : ts = [3] := by
    have : Tryz.prog.cellTypes Tryz.prog.depth 3 = some [3] := by kernel_rfl
    rw [this] at t1
    exact (Option.some.inj t1).symm
  subst ht
  obtain ⟨v, hv⟩ : ∃ v, cs[0]? = some v := ⟨_, Array.getElem?_eq_getElem (by omega)⟩
  obtain ⟨u, u1, u2⟩ := t3 0 v hv
  simp at u1
  subst u1
  unfold Cell.ok at u2
  rw [Tryz.underlying3] at u2
  cases v <;> simp only at u2
  obtain ⟨rfl, _⟩ := u2
  exact ⟨_, cell_at0 h1 hv⟩

set_option maxRecDepth 100000 in
noncomputable def laidW (os : Os) : World :=
  let N := (World.settled Tryz.prog os).heap.size
  let w0 := World.holding Tryz.prog os ⟨#[.cells (Lib.whiteT.map fun (z : Nat) => Value.int .u16 (z : Int)).toArray 218, .cells #[.slice (some ⟨N, 0, none⟩) 7 7, .slice none 0 0, .int .i64 2] 215], #[], []⟩
  let put (h : Array Obj) (g : Nat) (cs : Array Value) : Array Obj := h.modify g fun
    | .cells _ t frozen => .cells cs t frozen
    | o => o
  let h1 := put w0.heap 1 (Lib.asciiSpaceTab.map fun z => Value.int .u8 z).toArray
  let h2 := put h1 2 (Lib.firstTab.map fun z => Value.int .u8 z).toArray
  let h3 := put h2 3 ((List.range 16).flatMap fun i => [Value.int .u8 (Lib.accLo i), Value.int .u8 (Lib.accHi i)]).toArray
  let h4 := put h3 4 #[.pointer (some ⟨N + 1, 0, none⟩)]
  { w0 with heap := h4 }
set_option maxRecDepth 100000 in
theorem door_met (os : Os) (args : Array Value) : laidMetH Tryz.prog laid4 ((laidW os).forCall (fun _ _ => 0) ⟨#[], args, []⟩).memory :=
  laidMetH_of_parts3 (fuel := 8) (laidMet_of_run' 8 (by kernel_rfl) (by kernel_rfl)) (by kernel_rfl) (by kernel_rfl)

theorem gSpace : Tryz.prog.globalNamed "strings.asciiSpace" = some 1 := by kernel_rfl

theorem tSpace : (Tryz.prog.globals[1]?).map (·.type) = some 195 := by kernel_rfl
theorem tab_of {W : World} (h : laidMetH Tryz.prog laid4 W) : Tab W := by
  rw [MakeChecks.laidMetH_plain _ _ _ (by kernel_rfl)] at h
  obtain ⟨ps, ⟨_, _, _, _, _, _, _, _, _, _, ⟨_, _, _, _, _, _, _, _, _, _, ⟨g1, t1, cs1, f1, p1, q1, hg1, ht1, hv1, hd1, _, _⟩, _⟩, _⟩, _, _⟩ := h
  obtain rfl := Option.some.inj (gSpace.symm.trans hg1)
  obtain rfl := Option.some.inj (tSpace.symm.trans ht1)
  unfold Tab Lib.TabIs
  rw [hv1]
  rw [space_is] at hd1
  rw [← Lib.cells_of_tab Tryz.underlying195 Tryz.underlying5 (by kernel_rfl) (by kernel_rfl) hd1]
end Go.Proofs.YtpodeccpibnlbaaGreatDoor
