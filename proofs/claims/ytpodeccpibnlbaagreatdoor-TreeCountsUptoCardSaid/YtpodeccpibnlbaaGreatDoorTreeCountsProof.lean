/- TreeCounts, where the program holds at most 1048576 values and letters: the law answers true, and what came in reads as before; the tables of unicode/utf8, unicode and strings hold what the program's text lays them with: tied by the card. -/
import Derived.Test.YtpodeccpibnlbaaGreatDoorTie
import Derived.Test.YtpodeccpibnlbaaGreatDoorCards
import Derived.Test.YtpodeccpibnlbaaGreatDoorN28
import Derived.Test.YtpodeccpibnlbaaGreatDoorG42
import Derived.Test.YtpodeccpibnlbaaGreatDoorG28
import Derived.Deep.DeepHandedRow
import Derived.Deep.DeepWitnessRowRef
import Derived.ShutString
import Derived.SevenTiedAt
import Derived.WalkKit
import Derived.ProofKit
import Derived.OpenShut
import Derived.ChangeOld
import Derived.Below
namespace Go.Proofs.YtpodeccpibnlbaaGreatDoor.treeCounts
open Go.ChangeShapes Go.WideShapes Go.ChangeAt Go.WideMaps Go.WideElems Go.RowKit
open Go.ChangeMaps (open_string shut_string)
set_option linter.unusedVariables false
set_option linter.unusedSimpArgs false

set_option maxRecDepth 100000 in
theorem open_prg {H : Type} {enc : TypeId × Value → H} {W : World} {sp : Nat → Bool} {held : Bool} {r : Reach} {b0 : Nat} {v : Value} {d : DataW H} {p : List MemPlace} (hv : Value.okWide Tryz.prog W r b0 36 v)
    (h : DataW.Trod enc Tryz.prog W 0 sp held 36 v d p) (hb : Rows.uptoBulk d ≤ 1048576) : ∃ x : Prg, prgV (fun _ => True) W v x ∧ szPrg x ≤ Rows.uptoBulk d := by
  obtain ⟨v0, v1, v2, y0, y1, y2, n, rfl, rfl, _, g0, g1, g2⟩ := Go.Joins.open_agg3 Tryz.underlying36 (by kernel_rfl) cl36 hv h
  rw [Rows.uptoBulk] at hb ⊢
  simp only [Rows.uptoBulkAll] at hb ⊢
  obtain ⟨oa0, la0, ca0, l0, e0, r0, b0⟩ := Rd.row (rd_sct (enc := enc)) szSct_one Tryz.underlying32 cl58 (by decide) g0 (by omega)
  simp at e0
  subst e0
  obtain ⟨oa1, la1, ca1, l1, e1, r1, b1⟩ := Rd.row (rd_enm (enc := enc)) szEnm_one Tryz.underlying33 cl70 (by decide) g1 (by omega)
  simp at e1
  subst e1
  obtain ⟨oa2, la2, ca2, l2, e2, r2, b2⟩ := Rd.row (rd_fun (enc := enc)) szFun_one Tryz.underlying34 cl45 (by decide) g2 (by omega)
  simp at e2
  subst e2
  exact ⟨⟨l0, l1, l2⟩, ⟨_, _, _, _, _, _, _, _, _, rfl, r0, r1, r2⟩, by unfold szPrg; dsimp only; omega⟩
theorem u8_of {n : Int} (h : (Lit.int .u8 n).wf = true) : ∃ y : Nat, n = (y : Int) ∧ y < 256 := by
  obtain ⟨h1, h2⟩ := bounds_u8 h
  obtain ⟨y, rfl⟩ := Int.eq_ofNat_of_zero_le h1
  exact ⟨y, rfl, by omega⟩
theorem key_small {S : Nat → Prop} {w : World} {v : Value} {p : Prg} (h : prgV S w v p) (hs : szPrg p ≤ 1048576) : (keyL p).length ≤ 1099511627776 := by
  have := key_le (ok_prg h)
  omega
theorem uses_small {p : Prg} (hs : szPrg p ≤ 1048576) : ∀ f ∈ p.funcs, (usesI f).length ≤ 1048576 := fun f hf => by
  have h1 := uses_le f
  have h2 := funcs_le hf
  omega

set_option maxRecDepth 100000 in
set_option maxHeartbeats 4000000 in
theorem contract {H : Type} {enc : TypeId × Value → H} (W : World) (hsh : W.ShapedOpen Tryz.prog) (base : Nat) (args : Array Value) (ds gs : List (DataW H)) (before : List MemPlace)
    (hval0 : ∀ (j : Nat) t v, Tryz.f8.params[j]? = some t → args[j]? = some v → Value.okWide Tryz.prog W .any base t v)
    (hW : DataW.Whole enc Tryz.prog Tryz.f8.params.toList Rows.treeCountsSpec.vars false W args.toList ds gs before) (hk : Rows.uptoSmall H (ds ++ gs) = true) (hL : laidMetH Tryz.prog laid4 W) :
    Calls Tryz.prog 8 args W fun e W' => ∃ v, e = .returned v ∧ Rows.treeCountsSpec.post enc Tryz.prog Tryz.f8 false true false false W args v W' := by
  have hval : ∀ (j : Nat) t v, Tryz.f8.params[j]? = some t → args[j]? = some v → Value.okWide Tryz.prog W .any base t v := hval0
  have hW' := hW
  obtain ⟨p, q, hA0, hV, rfl, hfz, hnd⟩ := hW
  have hA : DataW.TrodAll enc Tryz.prog W 0 (fun _ => true) true Tryz.f8.params.toList args.toList ds p := hA0
  rw [Tryz.params8] at hA hval
  obtain ⟨v0, vs0, d0, ds0, p0, q0, hargs, rfl, rfl, h0, r0⟩ := trodAll_cons hA
  obtain ⟨v1, vs1, d1, ds1, p1, q1, rfl, rfl, rfl, h1, r1⟩ := trodAll_cons r0
  obtain ⟨rfl, rfl, rfl⟩ := trodAll_nil r1
  obtain rfl : args = #[v0, v1] := by cases args; simp_all
  obtain ⟨rfl, rfl⟩ := trodVars_none hV
  have hbulk : Rows.uptoBulk d0 + (Rows.uptoBulk d1 + 0) ≤ 1048576 := by
    have h := of_decide_eq_true hk
    simpa only [Rows.uptoBulkAll, List.cons_append, List.nil_append, List.append_nil] using h
  have k0 := h0
  have lt0 : ∀ x ∈ p0, x.block < W.heap.size := by obtain ⟨m, hm⟩ := k0; exact DataW.trod_lt m _ _ _ hm
  obtain ⟨a, ha, sa⟩ := open_prg (hval 0 36 v0 rfl rfl) h0 (by omega)
  obtain ⟨a1, rfl, rfl, rfl, w1⟩ := open_int Tryz.underlying5 (hval 1 5 v1 rfl rfl) h1
  obtain ⟨tm, rfl, htm⟩ := u8_of w1
  have hT := tab_of hL
  obtain ⟨m, hm⟩ := maxlen_of hsh
  clear hA0 hval0
  refine (law_counts hT hm ha (key_small ha (by omega)) (uses_small (by omega)) tm htm).mono fun e W' ⟨he, hmod⟩ => ?_
  have bel : Below W.heap.size W W' := hmod.below (Nat.le_refl _) (fun _ _ h => h)
  subst he
  exact ⟨_, rfl, _, _, _, [], _, [], hW', trodAll_mk1 (shut_bool Tryz.underlying4 _), (trodAll_cons_mk (Below.trod laidOut (by kernel_rfl) (of_decide_eq_true (by kernel_rfl)) k0 bel lt0) (trodAll_cons_mk (shut_int Tryz.underlying5 w1) trodAll_mk0)), rfl, bel.frame _, fun h => by cases h⟩

theorem reads (os : Os) {H : Type} (enc : TypeId × Value → H) : ∃ places, DataW.whole enc Tryz.prog ((laidW os).forCall (fun _ _ => 0) ⟨#[], #[.agg #[.slice none 0 0, .slice none 0 0, .slice none 0 0], .int .u8 0], []⟩).memory Tryz.f8.params.toList Rows.treeCountsSpec.vars false #[Value.agg #[.slice none 0 0, .slice none 0 0, .slice none 0 0], .int .u8 0].toList 8 = some ([.agg [.nil, .nil, .nil], .lit (.int .u8 0)], [], places) :=
  ⟨[], by kernel_rfl⟩

set_option maxRecDepth 100000 in
theorem lifted (os : Os) (started : os.Started) (H : Type) (enc : TypeId × Value → H) (F : Stop.Interp) :
    ReturnsInHanded {} Tryz.checked os 8 .any ((Rows.OpenSpec.upto Rows.treeCountsSpec).preRow enc Tryz.prog Tryz.f8 Rows.treeCountsUptoRow.domain false Rows.treeCountsUptoRow.laid) (((Rows.OpenSpec.upto Rows.treeCountsSpec).at F).post enc Tryz.prog Tryz.f8 false true false false) := by
  obtain ⟨places, hx⟩ := reads os enc
  refine returnsInHanded_of_row (C := Tryz.checked) (s := Rows.OpenSpec.upto Rows.treeCountsSpec) own started (by kernel_rfl) Tryz.func8
    (witness_row_atRef (enc := enc) (C := Tryz.checked) false (laidW os) #[.agg #[.slice none 0 0, .slice none 0 0, .slice none 0 0], .int .u8 0] rfl (by kernel_rfl) (by kernel_rfl) (by kernel_rfl)
      (OpenSpec.preRow_of_cond 8 hx (by kernel_rfl) (fun k hk => by cases hk; kernel_rfl) (by kernel_rfl) (door_met os _))) ?_
  intro W base args ds gs before hval hW _ hcond _ hL hsh _
  exact contract W hsh base args ds gs before hval hW (hcond _ rfl) hL

theorem over : Rows.TreeCountsUptoSaid :=
  OpenClaim.holds_of_cond 8 Tryz.f8 rfl rfl rfl rfl rfl rfl rfl ⟨rfl, rfl, rfl, rfl, rfl⟩ rfl rfl rfl rfl rfl (by kernel_rfl) Tryz.func8 (by kernel_rfl)
    (of_decide_eq_true (by kernel_rfl)) (by unfold Func.isWrapper; first | (rw [if_pos (by decide +kernel)]; kernel_rfl) | (rw [if_neg (by decide +kernel)]; exact ⟨rfl, rfl⟩))
    (fun os started H enc _ F => by rw [OpenClaim.pre_eq_preRow]; exact lifted os started H enc F)

/-- The tied card. -/
theorem proved : Rows.TreeCountsUptoCardSaid :=
  Claim7.holds_tied_plain_at .later [] _ _ _ _
    over (fun _ h => by cases h) (by kernel_rfl) (fun _ h => by cases h) treeCountsUpto_row_tie rfl ⟨rfl, rfl⟩ (by kernel_rfl) rfl
    (fun f fn hf hfn => by
      obtain rfl : f = 8 := Option.some.inj ((show Tryz.prog.funcNamed "drogue/droguelaw05.TreeCounts" = some 8 by kernel_rfl).symm.trans hf) |>.symm
      obtain rfl : fn = Tryz.f8 := (Option.some.inj (Tryz.func8.symm.trans hfn)).symm
      exact ⟨by kernel_rfl, fun j t ht => by
        rw [Tryz.params8] at ht
        have hm : t ∈ [36, 5] := by simpa using Array.mem_of_getElem? ht
        have hall : ([36, 5].all fun u => !Tryz.prog.wantsStandIn u) = true := by kernel_rfl
        exact (show Tryz.prog.wantsStandIn t = false by simpa using List.all_eq_true.1 hall t hm)⟩)
    (by kernel_rfl)
#print axioms proved
end Go.Proofs.YtpodeccpibnlbaaGreatDoor.treeCounts
