/- TreeFronts where a place is too long; a place, opened. -/
import Derived.Test.YtpodeccpibnlbaaGreatDoorG27
import Derived.Test.YtpodeccpibnlbaaGreatDoorG28
import Derived.Lib.SmallJoins
import Derived.SliceStrings
import Derived.Deep.Slices
import Derived.Below
namespace Go.Proofs.YtpodeccpibnlbaaGreatDoor
set_option linter.unusedVariables false
set_option linter.unusedSimpArgs false
open Go.ChangeShapes Go.WideShapes Go.ChangeAt Go.RowKit

set_option maxRecDepth 100000 in
set_option maxHeartbeats 8000000 in
theorem fronts_long {W : World} (hT : Tab W) {m : Int} (hm : W.cell? ⟨0, 0, none⟩ = some (.int .i64 m)) {p o : ByteArray} {oa ob : Option Addr} {la ca lb cb : Nat} (hl : ¬ (la ≤ 100 ∧ lb ≤ 100)) (i k : Int) :
    Calls Tryz.prog 7 #[.agg #[.string p, .slice oa la ca], .int .u8 i, .int .u8 k, .agg #[.string o, .slice ob lb cb]] W fun e w' => e = .returned (.bool true) ∧ Mod (fun _ => False) W w' := by
  have HA : Hd (∀ A B : Obj, _) := ⟨fun A B => alive_tmp ((W.alloc A).alloc B) (hT.mod ((Mod.alloc _ _ _).trans (Mod.alloc _ _ _) (fun _ h => Or.inl h))) (((Mod.alloc (fun _ => False) W A).trans (Mod.alloc _ _ B) (fun _ h => Or.inl h)).cell' hm)⟩
  clear hT hm
  go_enter Tryz.func7, Tryz.ntmps7
  go_wp2_with fail
  refine (HA.out _ _).mono ?_
  rintro e w1 ⟨rfl, hM⟩
  have hb0 := (hM.block _ (lt2_0 _ _ _) (fun h => h)).trans (heap2_0 W (.cells #[.string p, .slice oa la ca] 24) (.cells #[.string o, .slice ob lb cb] 24))
  have hb1 := (hM.block _ (lt2_1 _ _ _) (fun h => h)).trans (heap2_1 W (.cells #[.string p, .slice oa la ca] 24) (.cells #[.string o, .slice ob lb cb] 24))
  have HM1 : Hd (Mod (fun _ => False) W w1) := ⟨((Mod.alloc _ _ _).trans (Mod.alloc _ _ _) (fun _ h => Or.inl h)).trans hM (fun _ h => Or.inl h)⟩
  have c1 : w1.cell? ⟨W.heap.size, 1, none⟩ = some (.slice oa la ca) := by simp [World.cell?, hb0]
  have d1 : w1.cell? ⟨W.heap.size + 1, 1, none⟩ = some (.slice ob lb cb) := by simp [World.cell?, hb1]
  clear hb0 hb1 hM HA
  by_cases h1 : la ≤ 100
  · have h2 : ¬ (lb ≤ 100) := fun h => hl ⟨h1, h⟩
    have h2' : ¬ ((lb : Int) ≤ 100) := by omega
    clear hl
    go_wp2
    go_ret
    exact ⟨rfl, HM1.out⟩
  · clear hl
    go_wp2
    go_ret
    exact ⟨rfl, HM1.out⟩

set_option maxRecDepth 100000 in
theorem cells24 : Tryz.prog.cellsOf 24 = 2 := by kernel_rfl
theorem cells9 : Tryz.prog.cellsOf 9 = 1 := by kernel_rfl
set_option maxRecDepth 100000 in
/-- A place that came in. -/
theorem place_open {H : Type} {enc : TypeId × Value → H} {W : World} {held : Bool} {r : Reach} {b0 : Nat} {v : Value} {d : DataW H} {p : List MemPlace} (hv : Value.okWide Tryz.prog W r b0 24 v)
    (h : DataW.Trod enc Tryz.prog W 0 (fun _ => true) held 24 v d p) : ∃ (loc : ByteArray) (oa : Option Addr) (la ca : Nat), v = .agg #[.string loc, .slice oa la ca] ∧ (la ≤ 100 → ∃ steps, SR (fun _ => True) W 1 tU oa la ca steps) := by
  obtain ⟨v0, v1, y0, y1, n, rfl, _, _, g0, g1⟩ := Go.Joins.open_agg2 Tryz.underlying24 (by kernel_rfl) cells24 hv h
  obtain ⟨loc, e0, _, _⟩ := DataW.trod_string Tryz.underlying9 g0
  simp at e0
  subst e0
  rcases open_strings Tryz.underlying22 Tryz.underlying9 cells9 g1 with ⟨hcs, hx⟩ | ⟨a, len', cap', ss, hcs, _, hl, hm, hz, hx, hcell, _⟩
  · simp at hcs
    subst hcs
    exact ⟨loc, none, 0, 0, rfl, fun _ => ⟨[], rfl, by simp, by simp, by simp [maxLen], fun i x hi => by simp at hi⟩⟩
  · simp at hcs
    subst hcs
    simp only [if_true] at hz
    obtain ⟨b, off, spot⟩ := a
    refine ⟨loc, _, len', cap', rfl, fun h100 => ⟨ss.take len', ?_, ?_, hl, hm, fun i x hi => ?_⟩⟩
    · simp; omega
    · simp; omega
    · rw [List.getElem?_take] at hi
      split at hi
      · have hil := (List.getElem?_eq_some_iff.1 hi).1
        have hc := hcell i hil
        have hspot : spot = none := by simpa [Addr.add] using World.cell?_spot (hcell 0 (by omega))
        subst hspot
        rw [Addr.add_lit] at hc
        have hlt := World.block_lt_of_cell? W _ hc
        refine ⟨b, off, .string x, rfl, trivial, hlt, fun j u hu => ?_, rfl⟩
        have hj : j = 0 := by
          have := (Array.getElem?_eq_some_iff.1 hu).1
          simp [Value.cells] at this
          omega
        subst hj
        have hu' : u = .string x := by simpa [Value.cells] using hu.symm
        subst hu'
        rw [Nat.mul_one, Nat.add_zero, hc]
        simp [List.getD, hi]
      · cases hi
theorem u8_of {n : Int} (h : (Lit.int .u8 n).wf = true) : ∃ y : Nat, n = (y : Int) ∧ y < 256 := by
  obtain ⟨h1, h2⟩ := bounds_u8 h
  obtain ⟨y, rfl⟩ := Int.eq_ofNat_of_zero_le h1
  exact ⟨y, rfl, by omega⟩
end Go.Proofs.YtpodeccpibnlbaaGreatDoor
