/- SlabCalls: for every number of slots, every row of calls and every last call the law answers true, and what came in reads as before. No conditions. -/
import Derived.Test.YtpgoogjaoffdoaaRows
import Derived.Test.YtpgoogjaoffdoaaCalls
import Derived.Lib.SmallJoins
import Derived.Deep.Slices
import Derived.WalkKit
import Derived.ProofKit
import Derived.OpenShut
import Derived.ShutString
import Derived.ChangeOld
import Derived.Below
namespace Go.Proofs.Ytpgoogjaoffdoaa.slabCalls
open Go.ChangeShapes Go.WideShapes Go.ChangeAt Go.RowKit
open Go.ChangeMaps (open_string shut_string)
set_option linter.unusedVariables false
set_option linter.unusedSimpArgs false

theorem own : ownKnob Try.prog.godebug = none := by kernel_rfl
theorem laidOut : laidOutB Try.prog = true := by kernel_rfl

theorem cells25 : Try.prog.cellsOf 25 = 4 := by kernel_rfl

/-- A number of kind int that came in. -/
theorem i64_of {n : Int} (h : (Lit.int .i64 n).wf = true) : -9223372036854775808 ≤ n ∧ n ≤ 9223372036854775807 := by
  have e1 : IntKind.i64.min = -9223372036854775808 := rfl
  have e2 : IntKind.i64.max = 9223372036854775807 := rfl
  simp [Lit.wf, e1, e2] at h
  omega
theorem u64_of {n : Int} (h : (Lit.int .u64 n).wf = true) : ∃ y : Nat, n = (y : Int) ∧ y < 18446744073709551616 := by
  have e1 : IntKind.u64.min = 0 := rfl
  have e2 : IntKind.u64.max = 18446744073709551615 := rfl
  simp [Lit.wf, e1, e2] at h
  obtain ⟨y, rfl⟩ := Int.eq_ofNat_of_zero_le h.1
  exact ⟨y, rfl, by omega⟩

theorem list4 {α : Type} {l : List α} (h : l.length = 4) : ∃ a b c d, l = [a, b, c, d] := by
  match l, h with
  | [a, b, c, d], _ => exact ⟨a, b, c, d, rfl⟩

/-- A row of calls, opened. -/
theorem calls_open {H : Type} {enc : TypeId × Value → H} {W : World} {spare : Nat → Bool} {held : Bool} {fuel : Nat} {oa : Option Addr} {len cap : Nat} {x : DataW H × List MemPlace}
    (h : DataW.trod enc Try.prog W 0 spare held fuel 22 [.slice oa len cap] = some x) : Arg4 W oa len cap := by
  rcases Go.Deep.open_slice Try.underlying22 h with ⟨hcs, _⟩ | ⟨a, l, c, m, k, D, Pl, hcs, _, hl, hm, hmm, _, hx⟩
  · simp at hcs
    obtain ⟨rfl, rfl, rfl⟩ := hcs
    exact ⟨Nat.le_refl _, Nat.zero_le _, fun i hi => by omega⟩
  · simp at hcs
    obtain ⟨rfl, rfl, rfl⟩ := hcs
    have hlm : len ≤ m := by rw [hmm]; split <;> omega
    refine ⟨hl, hm, fun i hi => ?_⟩
    obtain ⟨cs, h1, h2⟩ := hx i (by omega)
    rw [cells25] at h1
    obtain ⟨_, hlen, hcell⟩ := World.cells?_some h1
    obtain ⟨y0, y1, y2, y3, n, _, _, g0, g1, g2, g3⟩ := Go.Joins.trod_struct4 Try.underlying25 h2
    obtain ⟨v0, v1, v2, v3, rfl⟩ := list4 hlen
    have c3 : Try.prog.cellsOf 3 = 1 := by kernel_rfl
    have c2 : Try.prog.cellsOf 2 = 1 := by kernel_rfl
    have c23 : Try.prog.cellsOf 23 = 1 := by kernel_rfl
    simp only [c3, c2, c23, List.drop_zero, List.drop_succ_cons, List.take_succ_cons, List.take_zero] at g0 g1 g2 g3
    obtain ⟨wh, e0, _, w0⟩ := DataW.trod_int Try.underlying3 g0
    obtain ⟨off, e1, _, w1⟩ := DataW.trod_int Try.underlying3 g1
    obtain ⟨nn, e2, _, w2⟩ := DataW.trod_int Try.underlying2 g2
    obtain ⟨bb, e3, _, w3⟩ := DataW.trod_int Try.underlying23 g3
    simp at e0 e1 e2 e3
    subst e0 e1 e2 e3
    obtain ⟨y, rfl, hy⟩ := u64_of w3
    have d0 := hcell 0 (by omega)
    have d1 := hcell 1 (by omega)
    have d2 := hcell 2 (by omega)
    have d3 := hcell 3 (by omega)
    simp only [Go.Deep.add_add, List.getElem?_cons_zero, List.getElem?_cons_succ, Nat.add_zero] at d0 d1 d2 d3
    refine ⟨a, wh, off, nn, y, rfl, ?_, d0, d1, d2, d3, (i64_of w1).1, (i64_of w1).2, (i64_of w2).1, (i64_of w2).2, hy⟩
    have := World.block_lt_of_cell? W _ d0
    rwa [adr_block] at this

/-- A call, opened. -/
theorem call_open {H : Type} {enc : TypeId × Value → H} {W : World} {spare : Nat → Bool} {held : Bool} {r : Reach} {b0 : Nat} {v : Value} {d : DataW H} {p : List MemPlace} (hv : Value.okWide Try.prog W r b0 25 v)
    (h : DataW.Trod enc Try.prog W 0 spare held 25 v d p) : ∃ (what of n : Int) (y : Nat), v = .agg #[.int .i64 what, .int .i64 of, .int .i64 n, .int .u64 (y : Int)] ∧ -9223372036854775808 ≤ of ∧ of ≤ 9223372036854775807 ∧ -9223372036854775808 ≤ n ∧ n ≤ 9223372036854775807 ∧ y < 18446744073709551616 := by
  obtain ⟨v0, v1, v2, v3, y0, y1, y2, y3, n, rfl, _, _, g0, g1, g2, g3⟩ := Go.Joins.open_agg4 Try.underlying25 (by kernel_rfl) cells25 hv h
  obtain ⟨wh, e0, _, w0⟩ := DataW.trod_int Try.underlying3 g0
  obtain ⟨off, e1, _, w1⟩ := DataW.trod_int Try.underlying3 g1
  obtain ⟨nn, e2, _, w2⟩ := DataW.trod_int Try.underlying2 g2
  obtain ⟨bb, e3, _, w3⟩ := DataW.trod_int Try.underlying23 g3
  simp at e0 e1 e2 e3
  subst e0 e1 e2 e3
  obtain ⟨y, rfl, hy⟩ := u64_of w3
  exact ⟨wh, off, nn, y, rfl, (i64_of w1).1, (i64_of w1).2, (i64_of w2).1, (i64_of w2).2, hy⟩

/-- The walk: it returns true, and writes nothing that was there. -/
theorem walk (a0 : Int) (oa : Option Addr) (len cap : Nat) (what of n : Int) (y : Nat) (W : World) (hA : Arg4 W oa len cap) (h1 : -9223372036854775808 ≤ of) (h2 : of ≤ 9223372036854775807) (h3 : -9223372036854775808 ≤ n) (h4 : n ≤ 9223372036854775807) (h5 : y < 18446744073709551616) :
    Calls Try.prog 3 #[.int .i64 a0, .slice oa len cap, .agg #[.int .i64 what, .int .i64 of, .int .i64 n, .int .u64 (y : Int)]] W fun e w' => e = .returned (.bool true) ∧ Below W.heap.size W w' := by
  by_cases h : 100 < len
  · exact calls_out a0 oa len cap _ _ _ _ h W
  · exact calls_walk a0 oa len cap what of n y (by omega) W hA h1 h2 h3 h4 h5

set_option maxRecDepth 100000 in
theorem lifted (os : Os) (started : os.Started) (H : Type) (enc : TypeId × Value → H) :
    ReturnsInHanded {} Try.checked os 3 .any (Rows.slabCallsSpec.pre6 enc Try.prog Try.f3 Rows.slabCallsRow.domain false) (Rows.slabCallsSpec.post enc Try.prog Try.f3 false true false false) := by
  refine returnsInHanded_of_change (C := Try.checked) own started (by kernel_rfl) Try.func3
    (ChangeSpec.witness6 (enc := enc) (C := Try.checked) false ⟨#[], #[.int .i64 0, .slice none 0 0, .agg #[.int .i64 0, .int .i64 0, .int .i64 0, .int .u64 0]], []⟩ 8 (by kernel_rfl) (by kernel_rfl) (by kernel_rfl) (by kernel_rfl)) ?_
  intro W base args ds gs before hval0 hW hcnd _
  have hval : ∀ (j : Nat) t v, Try.f3.params[j]? = some t → args[j]? = some v → Value.okWide Try.prog W .any base t v := hval0
  have hW' := hW
  obtain ⟨p, q, hA0, hV, rfl, hfz, hnd⟩ := hW
  have hA : DataW.TrodAll enc Try.prog W 0 (fun _ => true) true Try.f3.params.toList args.toList ds p := hA0
  rw [Try.params3] at hA hval
  obtain ⟨v0, vs0, d0, ds0, p0, q0, hargs, rfl, rfl, h0, r0⟩ := trodAll_cons hA
  obtain ⟨v1, vs1, d1, ds1, p1, q1, rfl, rfl, rfl, h1, r1⟩ := trodAll_cons r0
  obtain ⟨v2, vs2, d2, ds2, p2, q2, rfl, rfl, rfl, h2, r2⟩ := trodAll_cons r1
  obtain ⟨rfl, rfl, rfl⟩ := trodAll_nil r2
  obtain rfl : args = #[v0, v1, v2] := by cases args; simp_all
  obtain ⟨rfl, rfl⟩ := trodVars_none hV
  obtain ⟨a0, rfl, rfl, rfl, w0⟩ := open_int Try.underlying3 (hval 0 3 v0 rfl rfl) h0
  obtain ⟨a1, len1, cap1, rfl⟩ := okWide_slice Try.underlying22 (hval 1 22 v1 rfl rfl)
  have k1 := h1
  have lt1 : ∀ x ∈ p1, x.block < W.heap.size := by obtain ⟨m, hm⟩ := k1; exact DataW.trod_lt m _ _ _ hm
  have w1 : Arg4 W a1 len1 cap1 := by
    obtain ⟨fuel, hf⟩ := h1
    exact calls_open (by simpa [Value.cells] using hf)
  have k2 := h2
  have lt2 : ∀ x ∈ p2, x.block < W.heap.size := by obtain ⟨m, hm⟩ := k2; exact DataW.trod_lt m _ _ _ hm
  obtain ⟨what, off, nn, y, rfl, b1, b2, b3, b4, b5⟩ := call_open (hval 2 25 v2 rfl rfl) h2
  clear hA0 hval0
  refine (walk a0 a1 len1 cap1 what off nn y W w1 b1 b2 b3 b4 b5).mono fun e W' ⟨he, bel⟩ => ?_
  subst he
  exact ⟨_, rfl, _, _, _, [], _, [], hW', trodAll_mk1 (shut_bool Try.underlying4 _), (trodAll_cons_mk (shut_int Try.underlying3 w0) (trodAll_cons_mk (Below.trod laidOut (by kernel_rfl) (of_decide_eq_true (by kernel_rfl)) k1 bel lt1) (trodAll_cons_mk (Below.trod laidOut (by kernel_rfl) (of_decide_eq_true (by kernel_rfl)) k2 bel lt2) trodAll_mk0))), rfl, bel.frame _, fun h => by cases h⟩

theorem over : Rows.slabCallsRow.holds Try.pinned (OpenSpec.ofChange Rows.slabCallsSpec) :=
  OpenClaim.holds_of_wide 3 Try.f3 rfl rfl rfl rfl rfl rfl rfl ⟨rfl, rfl, rfl, rfl, rfl⟩ rfl rfl rfl rfl rfl (by kernel_rfl) Try.func3 (by kernel_rfl)
    (of_decide_eq_true (by kernel_rfl)) (by unfold Func.isWrapper; first | (rw [if_pos (by decide +kernel)]; kernel_rfl) | (rw [if_neg (by decide +kernel)]; exact ⟨rfl, rfl⟩))
    (fun os started H enc _ => lifted os started H enc)

/-- The statement. -/
theorem proved : Rows.SlabCallsSaid := over
#print axioms proved
end Go.Proofs.Ytpgoogjaoffdoaa.slabCalls
