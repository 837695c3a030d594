/- TreePlaces, where text and places hold together at most 1048576 values and letters: the law answers true, and what came in reads as before; the tables of unicode/utf8, unicode and strings hold what the program's text lays them with: tied by the card. -/
import Derived.Test.YtpodeccpibnlbaaGreatDoorTie
import Derived.Test.YtpodeccpibnlbaaGreatDoorCards
import Derived.Test.YtpodeccpibnlbaaGreatDoorG33
import Derived.Test.YtpodeccpibnlbaaGreatDoorG28
import Derived.Deep.DeepHandedRow
import Derived.Deep.DeepWitnessRowRef
import Derived.ShutString
import Derived.SevenTiedAt
import Derived.WalkKit
import Derived.ProofKit
import Derived.OpenShut
import Derived.ChangeOld
import Derived.Below
namespace Go.Proofs.YtpodeccpibnlbaaGreatDoor.treePlaces
open Go.ChangeShapes Go.WideShapes Go.ChangeAt Go.WideMaps Go.WideElems Go.RowKit
open Go.ChangeMaps (open_string shut_string)
set_option linter.unusedVariables false
set_option linter.unusedSimpArgs false

set_option maxRecDepth 100000 in
theorem open_pl {H : Type} {enc : TypeId × Value → H} {W : World} {sp : Nat → Bool} {held : Bool} {r : Reach} {b0 : Nat} {v : Value} {d : DataW H} {p : List MemPlace} (hv : Value.okWide Tryz.prog W r b0 24 v)
    (h : DataW.Trod enc Tryz.prog W 0 sp held 24 v d p) (hb : Rows.uptoBulk d ≤ 1048576) : ∃ x : Pl, plV (fun _ => True) W v x ∧ szPl x ≤ Rows.uptoBulk d := by
  obtain ⟨v0, v1, y0, y1, n, rfl, rfl, _, g0, g1⟩ := Go.Joins.open_agg2 Tryz.underlying24 (by kernel_rfl) cl24 hv h
  rw [Rows.uptoBulk] at hb ⊢
  simp only [Rows.uptoBulkAll] at hb ⊢
  obtain ⟨w0, s0, e0, h0, b0⟩ := rd_str (enc := enc) _ _ _ _ g0 (by omega)
  obtain ⟨rfl, m0⟩ := h0
  simp [Value.cells] at e0
  subst e0
  obtain ⟨oa, la, ca, l, e1, r1, b1⟩ := Rd.row (rd_str (enc := enc)) szS_one Tryz.underlying22 cl9 (by decide) g1 (by omega)
  simp at e1
  subst e1
  exact ⟨⟨s0, l⟩, ⟨m0, _, _, _, rfl, r1⟩, by unfold szPl; dsimp only; omega⟩

set_option maxRecDepth 100000 in
set_option maxHeartbeats 4000000 in
theorem contract {H : Type} {enc : TypeId × Value → H} (W : World) (hsh : W.ShapedOpen Tryz.prog) (base : Nat) (args : Array Value) (ds gs : List (DataW H)) (before : List MemPlace)
    (hval0 : ∀ (j : Nat) t v, Tryz.f3.params[j]? = some t → args[j]? = some v → Value.okWide Tryz.prog W .any base t v)
    (hW : DataW.Whole enc Tryz.prog Tryz.f3.params.toList Rows.treePlacesSpec.vars false W args.toList ds gs before) (hk : Rows.uptoSmall H (ds ++ gs) = true) (hL : laidMetH Tryz.prog laid4 W) :
    Calls Tryz.prog 3 args W fun e W' => ∃ v, e = .returned v ∧ Rows.treePlacesSpec.post enc Tryz.prog Tryz.f3 false true false false W args v W' := by
  have hval : ∀ (j : Nat) t v, Tryz.f3.params[j]? = some t → args[j]? = some v → Value.okWide Tryz.prog W .any base t v := hval0
  have hW' := hW
  obtain ⟨p, q, hA0, hV, rfl, hfz, hnd⟩ := hW
  have hA : DataW.TrodAll enc Tryz.prog W 0 (fun _ => true) true Tryz.f3.params.toList args.toList ds p := hA0
  rw [Tryz.params3] at hA hval
  obtain ⟨v0, vs0, d0, ds0, p0, q0, hargs, rfl, rfl, h0, r0⟩ := trodAll_cons hA
  obtain ⟨v1, vs1, d1, ds1, p1, q1, rfl, rfl, rfl, h1, r1⟩ := trodAll_cons r0
  obtain ⟨v2, vs2, d2, ds2, p2, q2, rfl, rfl, rfl, h2, r2⟩ := trodAll_cons r1
  obtain ⟨rfl, rfl, rfl⟩ := trodAll_nil r2
  obtain rfl : args = #[v0, v1, v2] := by cases args; simp_all
  obtain ⟨rfl, rfl⟩ := trodVars_none hV
  have hbulk : Rows.uptoBulk d0 + (Rows.uptoBulk d1 + (Rows.uptoBulk d2 + 0)) ≤ 1048576 := by
    have h := of_decide_eq_true hk
    simpa only [Rows.uptoBulkAll, List.cons_append, List.nil_append, List.append_nil] using h
  have k1 := h1
  have lt1 : ∀ x ∈ p1, x.block < W.heap.size := by obtain ⟨m, hm⟩ := k1; exact DataW.trod_lt m _ _ _ hm
  have k2 := h2
  have lt2 : ∀ x ∈ p2, x.block < W.heap.size := by obtain ⟨m, hm⟩ := k2; exact DataW.trod_lt m _ _ _ hm
  obtain ⟨s, rfl, rfl, rfl, hs0⟩ := open_string Tryz.underlying9 (hval 0 9 v0 rfl rfl) h0
  obtain ⟨a, ha, sa⟩ := open_pl (hval 1 24 v1 rfl rfl) h1 (by omega)
  obtain ⟨b, hb, sb⟩ := open_pl (hval 2 24 v2 rfl rfl) h2 (by omega)
  have hs : Sm s := by
    rw [Rows.uptoBulk] at hbulk
    have e : s.data.toList.length = s.size := lst_len s
    unfold Sm
    omega
  have hT := tab_of hL
  obtain ⟨m, hm⟩ := maxlen_of hsh
  clear hA0 hval0
  refine (law_places hT hm hs ha hb (by have := text_len a; unfold Sm; omega)).mono fun e W' ⟨he, hmod⟩ => ?_
  have bel : Below W.heap.size W W' := hmod.below (Nat.le_refl _) (fun _ _ h => h)
  subst he
  exact ⟨_, rfl, _, _, _, [], _, [], hW', trodAll_mk1 (shut_bool Tryz.underlying4 _), (trodAll_cons_mk (shut_string Tryz.underlying9 hs0) (trodAll_cons_mk (Below.trod laidOut (by kernel_rfl) (of_decide_eq_true (by kernel_rfl)) k1 bel lt1) (trodAll_cons_mk (Below.trod laidOut (by kernel_rfl) (of_decide_eq_true (by kernel_rfl)) k2 bel lt2) trodAll_mk0))), rfl, bel.frame _, fun h => by cases h⟩

theorem reads (os : Os) {H : Type} (enc : TypeId × Value → H) : ∃ places, DataW.whole enc Tryz.prog ((laidW os).forCall (fun _ _ => 0) ⟨#[], #[.string ByteArray.empty, .agg #[.string ByteArray.empty, .slice none 0 0], .agg #[.string ByteArray.empty, .slice none 0 0]], []⟩).memory Tryz.f3.params.toList Rows.treePlacesSpec.vars false #[Value.string ByteArray.empty, .agg #[.string ByteArray.empty, .slice none 0 0], .agg #[.string ByteArray.empty, .slice none 0 0]].toList 8 = some ([.lit (.string []), .agg [.lit (.string []), .nil], .agg [.lit (.string []), .nil]], [], places) :=
  ⟨[], by kernel_rfl⟩

set_option maxRecDepth 100000 in
theorem lifted (os : Os) (started : os.Started) (H : Type) (enc : TypeId × Value → H) (F : Stop.Interp) :
    ReturnsInHanded {} Tryz.checked os 3 .any ((Rows.OpenSpec.upto Rows.treePlacesSpec).preRow enc Tryz.prog Tryz.f3 Rows.treePlacesUptoRow.domain false Rows.treePlacesUptoRow.laid) (((Rows.OpenSpec.upto Rows.treePlacesSpec).at F).post enc Tryz.prog Tryz.f3 false true false false) := by
  obtain ⟨places, hx⟩ := reads os enc
  refine returnsInHanded_of_row (C := Tryz.checked) (s := Rows.OpenSpec.upto Rows.treePlacesSpec) own started (by kernel_rfl) Tryz.func3
    (witness_row_atRef (enc := enc) (C := Tryz.checked) false (laidW os) #[.string ByteArray.empty, .agg #[.string ByteArray.empty, .slice none 0 0], .agg #[.string ByteArray.empty, .slice none 0 0]] rfl (by kernel_rfl) (by kernel_rfl) (by kernel_rfl)
      (OpenSpec.preRow_of_cond 8 hx (by kernel_rfl) (fun k hk => by cases hk; kernel_rfl) (by kernel_rfl) (door_met os _))) ?_
  intro W base args ds gs before hval hW _ hcond _ hL hsh _
  exact contract W hsh base args ds gs before hval hW (hcond _ rfl) hL

theorem over : Rows.TreePlacesUptoSaid :=
  OpenClaim.holds_of_cond 3 Tryz.f3 rfl rfl rfl rfl rfl rfl rfl ⟨rfl, rfl, rfl, rfl, rfl⟩ rfl rfl rfl rfl rfl (by kernel_rfl) Tryz.func3 (by kernel_rfl)
    (of_decide_eq_true (by kernel_rfl)) (by unfold Func.isWrapper; first | (rw [if_pos (by decide +kernel)]; kernel_rfl) | (rw [if_neg (by decide +kernel)]; exact ⟨rfl, rfl⟩))
    (fun os started H enc _ F => by rw [OpenClaim.pre_eq_preRow]; exact lifted os started H enc F)

/-- The tied card. -/
theorem proved : Rows.TreePlacesUptoCardSaid :=
  Claim7.holds_tied_plain_at .later [] _ _ _ _
    over (fun _ h => by cases h) (by kernel_rfl) (fun _ h => by cases h) treePlacesUpto_row_tie rfl ⟨rfl, rfl⟩ (by kernel_rfl) rfl
    (fun f fn hf hfn => by
      obtain rfl : f = 3 := Option.some.inj ((show Tryz.prog.funcNamed "drogue/droguelaw05.TreePlaces" = some 3 by kernel_rfl).symm.trans hf) |>.symm
      obtain rfl : fn = Tryz.f3 := (Option.some.inj (Tryz.func3.symm.trans hfn)).symm
      exact ⟨by kernel_rfl, fun j t ht => by
        rw [Tryz.params3] at ht
        have hm : t ∈ [9, 24, 24] := by simpa using Array.mem_of_getElem? ht
        have hall : ([9, 24, 24].all fun u => !Tryz.prog.wantsStandIn u) = true := by kernel_rfl
        exact (show Tryz.prog.wantsStandIn t = false by simpa using List.all_eq_true.1 hall t hm)⟩)
    (by kernel_rfl)
#print axioms proved
end Go.Proofs.YtpodeccpibnlbaaGreatDoor.treePlaces
