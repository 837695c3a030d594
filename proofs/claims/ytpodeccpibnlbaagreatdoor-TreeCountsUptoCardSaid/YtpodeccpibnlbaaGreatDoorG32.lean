/- A program that came in, of bounded bulk, as data. -/
import Derived.Test.YtpodeccpibnlbaaGreatDoorRows
import Derived.Test.YtpodeccpibnlbaaGreatDoorG21
import Derived.Lib.SmallJoins
import Derived.Deep.Slices
import Derived.OpenShut
import Derived.ProofKit
import Derived.Below
namespace Go.Proofs.YtpodeccpibnlbaaGreatDoor
set_option linter.unusedVariables false
set_option linter.unusedSimpArgs false
set_option maxRecDepth 100000
open Go.ChangeShapes Go.WideShapes Go.ChangeAt Go.RowKit

def szS (s : ByteArray) : Nat := s.size + 1
def szR {α : Type} (f : α → Nat) (l : List α) : Nat := (l.map f).sum + 1
def szPl (p : Pl) : Nat := szS p.loc + szR szS p.steps + 1
def szVr (v : Vr) : Nat := szS v.name + szS v.type + 1
def szArm (a : Arm) : Nat := szS a.variant + szS a.loc + szS a.block + 1
def szSct (s : Sct) : Nat := 1 + szS s.name + 1 + 1 + szR szVr s.fields + 1
def szEnm (e : Enm) : Nat := 1 + szS e.name + szR szVr e.variants + 1
def szStm (s : Stm) : Nat := 1 + 1 + szPl s.dest + 1 + szS s.name + szS s.variant + szR szPl s.args + 1
def szTrm (t : Trm) : Nat := 1 + 1 + szPl t.dest + szS t.name + szR szPl t.args + szR szS t.blocks + szR szArm t.arms + 1
def szBlk (b : Blk) : Nat := 1 + szS b.name + szR szStm b.stmts + szTrm b.term + 1
def szFun (f : Fun) : Nat := 1 + szS f.name + szR szVr f.params + szR szVr f.locals + szS f.result + szR szBlk f.blocks + 1
def szPrg (p : Prg) : Nat := szR szSct p.structs + szR szEnm p.enums + szR szFun p.funcs + 1

theorem list_of {α : Type} : ∀ (n : Nat) (p : Nat → α → Prop), (∀ i, i < n → ∃ x, p i x) → ∃ l : List α, l.length = n ∧ ∀ i x, l[i]? = some x → p i x
  | 0, _, _ => ⟨[], rfl, fun i x h => by simp at h⟩
  | n + 1, p, h => by
    obtain ⟨x, hx⟩ := h 0 (by omega)
    obtain ⟨l, hl, hp⟩ := list_of n (fun i => p (i + 1)) (fun i hi => h (i + 1) (by omega))
    refine ⟨x :: l, by simp [hl], fun i y hy => ?_⟩
    cases i with
    | zero => simp at hy; subst hy; exact hx
    | succ i => exact hp i y (by simpa using hy)
theorem sum_le {α : Type} (sz : α → Nat) : ∀ (l : List α) (g : Nat → Nat), (∀ i x, l[i]? = some x → sz x ≤ g i) → (l.map sz).sum ≤ ((List.range l.length).map g).sum
  | [], _, _ => by simp
  | x :: l, g, h => by
    have h0 := h 0 x rfl
    have h1 := sum_le sz l (fun i => g (i + 1)) (fun i y hy => h (i + 1) y (by simpa using hy))
    rw [List.length_cons, List.range_succ_eq_map, List.map_cons, List.map_cons, List.map_map, List.sum_cons, List.sum_cons]
    have e : ((List.range l.length).map (g ∘ Nat.succ)).sum = ((List.range l.length).map (fun i => g (i + 1))).sum := rfl
    omega
theorem sum_one {α : Type} (sz : α → Nat) (h : ∀ x, 1 ≤ sz x) : ∀ l : List α, l.length ≤ (l.map sz).sum
  | [] => by simp
  | x :: l => by
    have h0 := h x
    have h1 := sum_one sz h l
    rw [List.map_cons, List.sum_cons, List.length_cons]
    omega
theorem mem_le {α : Type} (sz : α → Nat) {x : α} : ∀ {l : List α}, x ∈ l → sz x ≤ (l.map sz).sum
  | y :: l, h => by
    rw [List.map_cons, List.sum_cons]
    rcases List.mem_cons.1 h with rfl | h
    · omega
    · have := mem_le sz h; omega
section
variable {H : Type} {enc : TypeId × Value → H} {W : World} {sp : Nat → Bool} {held : Bool}
theorem bulk_all : ∀ l : List (DataW H), Rows.uptoBulkAll l = (l.map Rows.uptoBulk).sum
  | [] => by simp [Rows.uptoBulkAll]
  | d :: l => by rw [Rows.uptoBulkAll, bulk_all l]; simp
/-- What is read at a type, of bounded bulk, is data. -/
def Rd (enc : TypeId × Value → H) (W : World) (sp : Nat → Bool) (held : Bool) {α : Type} (t : TypeId) (V : Value → α → Prop) (sz : α → Nat) : Prop :=
  ∀ fuel cs d ps, DataW.trod enc Tryz.prog W 0 sp held fuel t cs = some (d, ps) → Rows.uptoBulk d ≤ 1048576 → ∃ v x, v.cells.toList = cs ∧ V v x ∧ sz x ≤ Rows.uptoBulk d
/-- A row of such. -/
theorem Rd.row {α : Type} {t e : TypeId} {n : Nat} {V : Value → α → Prop} {sz : α → Nat} (hE : Rd enc W sp held e V sz) (h1 : ∀ x, 1 ≤ sz x) (ht : Tryz.prog.underlying t = some (.slice e)) (hc : Tryz.prog.cellsOf e = n) (hn : 0 < n)
    {fuel : Nat} {cs : List Value} {d : DataW H} {ps : List MemPlace} (h : DataW.trod enc Tryz.prog W 0 sp held fuel t cs = some (d, ps)) (hb : Rows.uptoBulk d ≤ 1048576) :
    ∃ oa la ca l, cs = [.slice oa la ca] ∧ SR (fun _ => True) W n V oa la ca l ∧ szR sz l ≤ Rows.uptoBulk d := by
  rcases Go.Deep.open_slice ht h with ⟨rfl, hx⟩ | ⟨a, len, cap, m, k, D, Pl, rfl, _, hl, hm, hmm, hx, hcell⟩
  · simp only [Prod.mk.injEq] at hx
    obtain ⟨rfl, rfl⟩ := hx
    exact ⟨none, 0, 0, [], rfl, ⟨rfl, by simp, by simp, by simp [maxLen], fun i x hi => by simp at hi⟩, by simp [szR, Rows.uptoBulk]⟩
  · simp only [Prod.mk.injEq] at hx
    obtain ⟨rfl, rfl⟩ := hx
    rw [hc] at hcell
    have hlm : len ≤ m := by rw [hmm]; split <;> omega
    rw [Rows.uptoBulk, bulk_all, List.map_map] at hb
    have hone : ∀ i, i < len → Rows.uptoBulk (D i) ≤ 1048576 := fun i hi => by
      have : Rows.uptoBulk (D i) ≤ ((List.range len).map (Rows.uptoBulk ∘ D)).sum := mem_le (Rows.uptoBulk ∘ D) (List.mem_range.2 hi)
      omega
    obtain ⟨l, hll, hlp⟩ := list_of len (fun i (x : α) => ∃ v : Value, W.cells? 0 (a.add (i * n)) n = some v.cells.toList ∧ V v x ∧ sz x ≤ Rows.uptoBulk (D i)) (fun i hi => by
      obtain ⟨cs', g1, g2⟩ := hcell i (by omega)
      obtain ⟨v, x, e1, e2, e3⟩ := hE _ _ _ _ g2 (hone i hi)
      exact ⟨x, v, by rw [g1, e1], e2, e3⟩)
    have hsum := sum_le sz l (Rows.uptoBulk ∘ D) (fun i x hi => (hlp i x hi).choose_spec.2.2)
    rw [hll] at hsum
    have hlen := sum_one sz h1 l
    refine ⟨some a, len, cap, l, rfl, ⟨hll.symm, by omega, hl, hm, fun i x hi => ?_⟩, ?_⟩
    · obtain ⟨v, g1, g2, _⟩ := hlp i x hi
      obtain ⟨_, gl, gc⟩ := World.cells?_some g1
      have hi0 := gc 0 (by omega)
      obtain ⟨u0, hu0⟩ : ∃ u, v.cells.toList[0]? = some u := ⟨_, List.getElem?_eq_getElem (by omega)⟩
      rw [hu0] at hi0
      have hil := (List.getElem?_eq_some_iff.1 hi).1
      obtain ⟨x0, hx0⟩ : ∃ x0, l[0]? = some x0 := ⟨_, List.getElem?_eq_getElem (by omega)⟩
      obtain ⟨v0, g0, _, _⟩ := hlp 0 x0 hx0
      obtain ⟨_, gl0, gc0⟩ := World.cells?_some g0
      have hj0 := gc0 0 (by omega)
      obtain ⟨u1, hu1⟩ : ∃ u, v0.cells.toList[0]? = some u := ⟨_, List.getElem?_eq_getElem (by omega)⟩
      rw [hu1] at hj0
      obtain ⟨b, o, spot⟩ := a
      have hspot : spot = none := by
        have hs := World.cell?_spot hj0
        simpa [Addr.add] using hs
      subst hspot
      have hlt := World.block_lt_of_cell? W _ hi0
      rw [Addr.add_lit, Addr.add_lit] at hlt
      refine ⟨b, o, v, rfl, trivial, hlt, fun j u hu => ?_, g2⟩
      have hj : j < n := by have := (Array.getElem?_eq_some_iff.1 hu).1; simp at gl; omega
      have h3 := gc j hj
      rw [Addr.add_lit, Addr.add_lit] at h3
      rw [show o + (i * n + j) = o + i * n + j by omega, h3]
      simpa using hu
    · rw [szR, Rows.uptoBulk, bulk_all, List.map_map]
      omega
theorem cl2 : Tryz.prog.cellsOf 2 = 1 := by kernel_rfl
theorem cl3 : Tryz.prog.cellsOf 3 = 1 := by kernel_rfl
theorem cl4 : Tryz.prog.cellsOf 4 = 1 := by kernel_rfl
theorem cl9 : Tryz.prog.cellsOf 9 = 1 := by kernel_rfl
theorem cl22 : Tryz.prog.cellsOf 22 = 1 := by kernel_rfl
theorem cl24 : Tryz.prog.cellsOf 24 = 2 := by kernel_rfl
theorem cl32 : Tryz.prog.cellsOf 32 = 1 := by kernel_rfl
theorem cl33 : Tryz.prog.cellsOf 33 = 1 := by kernel_rfl
theorem cl34 : Tryz.prog.cellsOf 34 = 1 := by kernel_rfl
theorem cl42 : Tryz.prog.cellsOf 42 = 1 := by kernel_rfl
theorem cl43 : Tryz.prog.cellsOf 43 = 1 := by kernel_rfl
theorem cl46 : Tryz.prog.cellsOf 46 = 1 := by kernel_rfl
theorem cl59 : Tryz.prog.cellsOf 59 = 1 := by kernel_rfl
theorem cl62 : Tryz.prog.cellsOf 62 = 1 := by kernel_rfl
theorem cl52 : Tryz.prog.cellsOf 52 = 2 := by kernel_rfl
theorem cl94 : Tryz.prog.cellsOf 94 = 3 := by kernel_rfl
theorem cl58 : Tryz.prog.cellsOf 58 = 5 := by kernel_rfl
theorem cl70 : Tryz.prog.cellsOf 70 = 3 := by kernel_rfl
theorem cl68 : Tryz.prog.cellsOf 68 = 8 := by kernel_rfl
theorem cl61 : Tryz.prog.cellsOf 61 = 8 := by kernel_rfl
theorem cl64 : Tryz.prog.cellsOf 64 = 11 := by kernel_rfl
theorem cl45 : Tryz.prog.cellsOf 45 = 6 := by kernel_rfl
theorem cl36 : Tryz.prog.cellsOf 36 = 3 := by kernel_rfl
theorem i64_wf {n : Int} (h : (Lit.int .i64 n).wf = true) : I64 n := by
  have e1 : IntKind.i64.min = -9223372036854775808 := rfl
  have e2 : IntKind.i64.max = 9223372036854775807 := rfl
  simp [Lit.wf, e1, e2] at h
  exact ⟨h.1, h.2⟩
theorem rd_str : Rd enc W sp held 9 strV szS := by
  intro fuel cs d ps h hb
  obtain ⟨s, rfl, hx, _⟩ := DataW.trod_string Tryz.underlying9 h
  simp only [Prod.mk.injEq] at hx
  obtain ⟨rfl, rfl⟩ := hx
  have hs : s.data.toList.length = s.size := lst_len s
  rw [Rows.uptoBulk, hs] at hb
  exact ⟨.string s, s, rfl, ⟨rfl, by unfold Sm; omega⟩, by rw [szS, Rows.uptoBulk, hs]; exact Nat.le_refl _⟩
theorem szS_one (s : ByteArray) : 1 ≤ szS s := by unfold szS; omega
theorem lis2 {α : Type} {l : List α} (h : l.length = 2) : ∃ c0 c1, l = [c0, c1] := by
  match l, h with
  | [c0, c1], _ => exact ⟨c0, c1, rfl⟩
theorem lis3 {α : Type} {l : List α} (h : l.length = 3) : ∃ c0 c1 c2, l = [c0, c1, c2] := by
  match l, h with
  | [c0, c1, c2], _ => exact ⟨c0, c1, c2, rfl⟩
theorem lis4 {α : Type} {l : List α} (h : l.length = 4) : ∃ c0 c1 c2 c3, l = [c0, c1, c2, c3] := by
  match l, h with
  | [c0, c1, c2, c3], _ => exact ⟨c0, c1, c2, c3, rfl⟩
theorem lis5 {α : Type} {l : List α} (h : l.length = 5) : ∃ c0 c1 c2 c3 c4, l = [c0, c1, c2, c3, c4] := by
  match l, h with
  | [c0, c1, c2, c3, c4], _ => exact ⟨c0, c1, c2, c3, c4, rfl⟩
theorem lis6 {α : Type} {l : List α} (h : l.length = 6) : ∃ c0 c1 c2 c3 c4 c5, l = [c0, c1, c2, c3, c4, c5] := by
  match l, h with
  | [c0, c1, c2, c3, c4, c5], _ => exact ⟨c0, c1, c2, c3, c4, c5, rfl⟩
theorem lis7 {α : Type} {l : List α} (h : l.length = 7) : ∃ c0 c1 c2 c3 c4 c5 c6, l = [c0, c1, c2, c3, c4, c5, c6] := by
  match l, h with
  | [c0, c1, c2, c3, c4, c5, c6], _ => exact ⟨c0, c1, c2, c3, c4, c5, c6, rfl⟩
theorem lis8 {α : Type} {l : List α} (h : l.length = 8) : ∃ c0 c1 c2 c3 c4 c5 c6 c7, l = [c0, c1, c2, c3, c4, c5, c6, c7] := by
  match l, h with
  | [c0, c1, c2, c3, c4, c5, c6, c7], _ => exact ⟨c0, c1, c2, c3, c4, c5, c6, c7, rfl⟩
theorem lis11 {α : Type} {l : List α} (h : l.length = 11) : ∃ c0 c1 c2 c3 c4 c5 c6 c7 c8 c9 c10, l = [c0, c1, c2, c3, c4, c5, c6, c7, c8, c9, c10] := by
  match l, h with
  | [c0, c1, c2, c3, c4, c5, c6, c7, c8, c9, c10], _ => exact ⟨c0, c1, c2, c3, c4, c5, c6, c7, c8, c9, c10, rfl⟩
theorem rd_pl : Rd enc W sp held 24 (plV (fun _ => True) W) szPl := by
  intro fuel cs d ps h hb
  obtain ⟨xs, n, _, hx, hl, hlen, hf⟩ := DataW.trod_struct Tryz.underlying24 h
  obtain ⟨y0, y1, rfl⟩ := lis2 hlen
  rw [cl24] at hl
  obtain ⟨c0, c1, rfl⟩ := lis2 hl
  simp only [Prod.mk.injEq, List.map_cons, List.map_nil] at hx
  obtain ⟨rfl, _⟩ := hx
  rw [Rows.uptoBulk] at hb ⊢
  simp only [Rows.uptoBulkAll] at hb ⊢
  have g0 : DataW.trod enc Tryz.prog W 0 sp held n 9 [c0] = some y0 := by have := hf 0 _ rfl; simpa [cl9] using this
  have g1 : DataW.trod enc Tryz.prog W 0 sp held n 22 [c1] = some y1 := by have := hf 1 _ rfl; simpa [cl22] using this
  clear hf
  obtain ⟨v0, s0, e0, h0, b0⟩ := rd_str (enc := enc) _ _ _ _ g0 (by omega)
  obtain ⟨rfl, m0⟩ := h0
  simp [Value.cells] at e0
  subst e0
  obtain ⟨oa1, la1, ca1, l1, e1, r1, b1⟩ := Rd.row (rd_str (enc := enc)) szS_one Tryz.underlying22 cl9 (by decide) g1 (by omega)
  simp at e1
  subst e1
  refine ⟨.agg #[.string s0, .slice oa1 la1 ca1], ⟨s0, l1⟩, by simp [Value.cells], ⟨m0, _, _, _, rfl, r1⟩, ?_⟩
  unfold szPl
  dsimp only
  omega
theorem szPl_one (x : Pl) : 1 ≤ szPl x := by unfold szPl; omega
theorem rd_vr : Rd enc W sp held 52 (vrV) szVr := by
  intro fuel cs d ps h hb
  obtain ⟨xs, n, _, hx, hl, hlen, hf⟩ := DataW.trod_struct Tryz.underlying52 h
  obtain ⟨y0, y1, rfl⟩ := lis2 hlen
  rw [cl52] at hl
  obtain ⟨c0, c1, rfl⟩ := lis2 hl
  simp only [Prod.mk.injEq, List.map_cons, List.map_nil] at hx
  obtain ⟨rfl, _⟩ := hx
  rw [Rows.uptoBulk] at hb ⊢
  simp only [Rows.uptoBulkAll] at hb ⊢
  have g0 : DataW.trod enc Tryz.prog W 0 sp held n 9 [c0] = some y0 := by have := hf 0 _ rfl; simpa [cl9] using this
  have g1 : DataW.trod enc Tryz.prog W 0 sp held n 9 [c1] = some y1 := by have := hf 1 _ rfl; simpa [cl9] using this
  clear hf
  obtain ⟨v0, s0, e0, h0, b0⟩ := rd_str (enc := enc) _ _ _ _ g0 (by omega)
  obtain ⟨rfl, m0⟩ := h0
  simp [Value.cells] at e0
  subst e0
  obtain ⟨v1, s1, e1, h1, b1⟩ := rd_str (enc := enc) _ _ _ _ g1 (by omega)
  obtain ⟨rfl, m1⟩ := h1
  simp [Value.cells] at e1
  subst e1
  refine ⟨.agg #[.string s0, .string s1], ⟨s0, s1⟩, by simp [Value.cells], ⟨rfl, m0, m1⟩, ?_⟩
  unfold szVr
  dsimp only
  omega
theorem szVr_one (x : Vr) : 1 ≤ szVr x := by unfold szVr; omega
theorem rd_arm : Rd enc W sp held 94 (armV) szArm := by
  intro fuel cs d ps h hb
  obtain ⟨xs, n, _, hx, hl, hlen, hf⟩ := DataW.trod_struct Tryz.underlying94 h
  obtain ⟨y0, y1, y2, rfl⟩ := lis3 hlen
  rw [cl94] at hl
  obtain ⟨c0, c1, c2, rfl⟩ := lis3 hl
  simp only [Prod.mk.injEq, List.map_cons, List.map_nil] at hx
  obtain ⟨rfl, _⟩ := hx
  rw [Rows.uptoBulk] at hb ⊢
  simp only [Rows.uptoBulkAll] at hb ⊢
  have g0 : DataW.trod enc Tryz.prog W 0 sp held n 9 [c0] = some y0 := by have := hf 0 _ rfl; simpa [cl9] using this
  have g1 : DataW.trod enc Tryz.prog W 0 sp held n 9 [c1] = some y1 := by have := hf 1 _ rfl; simpa [cl9] using this
  have g2 : DataW.trod enc Tryz.prog W 0 sp held n 9 [c2] = some y2 := by have := hf 2 _ rfl; simpa [cl9] using this
  clear hf
  obtain ⟨v0, s0, e0, h0, b0⟩ := rd_str (enc := enc) _ _ _ _ g0 (by omega)
  obtain ⟨rfl, m0⟩ := h0
  simp [Value.cells] at e0
  subst e0
  obtain ⟨v1, s1, e1, h1, b1⟩ := rd_str (enc := enc) _ _ _ _ g1 (by omega)
  obtain ⟨rfl, m1⟩ := h1
  simp [Value.cells] at e1
  subst e1
  obtain ⟨v2, s2, e2, h2, b2⟩ := rd_str (enc := enc) _ _ _ _ g2 (by omega)
  obtain ⟨rfl, m2⟩ := h2
  simp [Value.cells] at e2
  subst e2
  refine ⟨.agg #[.string s0, .string s1, .string s2], ⟨s0, s1, s2⟩, by simp [Value.cells], ⟨rfl, m0, m1, m2⟩, ?_⟩
  unfold szArm
  dsimp only
  omega
theorem szArm_one (x : Arm) : 1 ≤ szArm x := by unfold szArm; omega
theorem rd_sct : Rd enc W sp held 58 (sctV (fun _ => True) W) szSct := by
  intro fuel cs d ps h hb
  obtain ⟨xs, n, _, hx, hl, hlen, hf⟩ := DataW.trod_struct Tryz.underlying58 h
  obtain ⟨y0, y1, y2, y3, y4, rfl⟩ := lis5 hlen
  rw [cl58] at hl
  obtain ⟨c0, c1, c2, c3, c4, rfl⟩ := lis5 hl
  simp only [Prod.mk.injEq, List.map_cons, List.map_nil] at hx
  obtain ⟨rfl, _⟩ := hx
  rw [Rows.uptoBulk] at hb ⊢
  simp only [Rows.uptoBulkAll] at hb ⊢
  have g0 : DataW.trod enc Tryz.prog W 0 sp held n 3 [c0] = some y0 := by have := hf 0 _ rfl; simpa [cl3] using this
  have g1 : DataW.trod enc Tryz.prog W 0 sp held n 9 [c1] = some y1 := by have := hf 1 _ rfl; simpa [cl9] using this
  have g2 : DataW.trod enc Tryz.prog W 0 sp held n 4 [c2] = some y2 := by have := hf 2 _ rfl; simpa [cl4] using this
  have g3 : DataW.trod enc Tryz.prog W 0 sp held n 4 [c3] = some y3 := by have := hf 3 _ rfl; simpa [cl4] using this
  have g4 : DataW.trod enc Tryz.prog W 0 sp held n 42 [c4] = some y4 := by have := hf 4 _ rfl; simpa [cl42] using this
  clear hf
  obtain ⟨i0, e0, f0, w0⟩ := DataW.trod_int Tryz.underlying3 g0
  simp at e0
  subst e0
  have b0 : Rows.uptoBulk y0.1 = 1 := by rw [f0]; rfl
  obtain ⟨v1, s1, e1, h1, b1⟩ := rd_str (enc := enc) _ _ _ _ g1 (by omega)
  obtain ⟨rfl, m1⟩ := h1
  simp [Value.cells] at e1
  subst e1
  obtain ⟨i2, e2, f2⟩ := DataW.trod_bool Tryz.underlying4 g2
  simp at e2
  subst e2
  have b2 : Rows.uptoBulk y2.1 = 1 := by rw [f2]; rfl
  obtain ⟨i3, e3, f3⟩ := DataW.trod_bool Tryz.underlying4 g3
  simp at e3
  subst e3
  have b3 : Rows.uptoBulk y3.1 = 1 := by rw [f3]; rfl
  obtain ⟨oa4, la4, ca4, l4, e4, r4, b4⟩ := Rd.row (rd_vr (enc := enc)) szVr_one Tryz.underlying42 cl52 (by decide) g4 (by omega)
  simp at e4
  subst e4
  refine ⟨.agg #[.int .i64 i0, .string s1, .bool i2, .bool i3, .slice oa4 la4 ca4], ⟨i0, s1, i2, i3, l4⟩, by simp [Value.cells], ⟨i64_wf w0, m1, _, _, _, rfl, r4⟩, ?_⟩
  unfold szSct
  dsimp only
  omega
theorem szSct_one (x : Sct) : 1 ≤ szSct x := by unfold szSct; omega
theorem rd_enm : Rd enc W sp held 70 (enmV (fun _ => True) W) szEnm := by
  intro fuel cs d ps h hb
  obtain ⟨xs, n, _, hx, hl, hlen, hf⟩ := DataW.trod_struct Tryz.underlying70 h
  obtain ⟨y0, y1, y2, rfl⟩ := lis3 hlen
  rw [cl70] at hl
  obtain ⟨c0, c1, c2, rfl⟩ := lis3 hl
  simp only [Prod.mk.injEq, List.map_cons, List.map_nil] at hx
  obtain ⟨rfl, _⟩ := hx
  rw [Rows.uptoBulk] at hb ⊢
  simp only [Rows.uptoBulkAll] at hb ⊢
  have g0 : DataW.trod enc Tryz.prog W 0 sp held n 3 [c0] = some y0 := by have := hf 0 _ rfl; simpa [cl3] using this
  have g1 : DataW.trod enc Tryz.prog W 0 sp held n 9 [c1] = some y1 := by have := hf 1 _ rfl; simpa [cl9] using this
  have g2 : DataW.trod enc Tryz.prog W 0 sp held n 42 [c2] = some y2 := by have := hf 2 _ rfl; simpa [cl42] using this
  clear hf
  obtain ⟨i0, e0, f0, w0⟩ := DataW.trod_int Tryz.underlying3 g0
  simp at e0
  subst e0
  have b0 : Rows.uptoBulk y0.1 = 1 := by rw [f0]; rfl
  obtain ⟨v1, s1, e1, h1, b1⟩ := rd_str (enc := enc) _ _ _ _ g1 (by omega)
  obtain ⟨rfl, m1⟩ := h1
  simp [Value.cells] at e1
  subst e1
  obtain ⟨oa2, la2, ca2, l2, e2, r2, b2⟩ := Rd.row (rd_vr (enc := enc)) szVr_one Tryz.underlying42 cl52 (by decide) g2 (by omega)
  simp at e2
  subst e2
  refine ⟨.agg #[.int .i64 i0, .string s1, .slice oa2 la2 ca2], ⟨i0, s1, l2⟩, by simp [Value.cells], ⟨i64_wf w0, m1, _, _, _, rfl, r2⟩, ?_⟩
  unfold szEnm
  dsimp only
  omega
theorem szEnm_one (x : Enm) : 1 ≤ szEnm x := by unfold szEnm; omega
theorem rd_stm : Rd enc W sp held 68 (stmV (fun _ => True) W) szStm := by
  intro fuel cs d ps h hb
  obtain ⟨xs, n, _, hx, hl, hlen, hf⟩ := DataW.trod_struct Tryz.underlying68 h
  obtain ⟨y0, y1, y2, y3, y4, y5, y6, rfl⟩ := lis7 hlen
  rw [cl68] at hl
  obtain ⟨c0, c1, c2, c3, c4, c5, c6, c7, rfl⟩ := lis8 hl
  simp only [Prod.mk.injEq, List.map_cons, List.map_nil] at hx
  obtain ⟨rfl, _⟩ := hx
  rw [Rows.uptoBulk] at hb ⊢
  simp only [Rows.uptoBulkAll] at hb ⊢
  have g0 : DataW.trod enc Tryz.prog W 0 sp held n 3 [c0] = some y0 := by have := hf 0 _ rfl; simpa [cl3] using this
  have g1 : DataW.trod enc Tryz.prog W 0 sp held n 3 [c1] = some y1 := by have := hf 1 _ rfl; simpa [cl3] using this
  have g2 : DataW.trod enc Tryz.prog W 0 sp held n 24 [c2, c3] = some y2 := by have := hf 2 _ rfl; simpa [cl24] using this
  have g3 : DataW.trod enc Tryz.prog W 0 sp held n 2 [c4] = some y3 := by have := hf 3 _ rfl; simpa [cl2] using this
  have g4 : DataW.trod enc Tryz.prog W 0 sp held n 9 [c5] = some y4 := by have := hf 4 _ rfl; simpa [cl9] using this
  have g5 : DataW.trod enc Tryz.prog W 0 sp held n 9 [c6] = some y5 := by have := hf 5 _ rfl; simpa [cl9] using this
  have g6 : DataW.trod enc Tryz.prog W 0 sp held n 46 [c7] = some y6 := by have := hf 6 _ rfl; simpa [cl46] using this
  clear hf
  obtain ⟨i0, e0, f0, w0⟩ := DataW.trod_int Tryz.underlying3 g0
  simp at e0
  subst e0
  have b0 : Rows.uptoBulk y0.1 = 1 := by rw [f0]; rfl
  obtain ⟨i1, e1, f1, w1⟩ := DataW.trod_int Tryz.underlying3 g1
  simp at e1
  subst e1
  have b1 : Rows.uptoBulk y1.1 = 1 := by rw [f1]; rfl
  obtain ⟨v2, s2, e2, h2, b2⟩ := rd_pl (enc := enc) _ _ _ _ g2 (by omega)
  obtain ⟨m2, po2, pl2, pc2, rfl, hp2⟩ := h2
  simp [Value.cells] at e2
  obtain ⟨rfl, rfl⟩ := e2
  obtain ⟨i3, e3, f3, w3⟩ := DataW.trod_int Tryz.underlying2 g3
  simp at e3
  subst e3
  have b3 : Rows.uptoBulk y3.1 = 1 := by rw [f3]; rfl
  obtain ⟨v4, s4, e4, h4, b4⟩ := rd_str (enc := enc) _ _ _ _ g4 (by omega)
  obtain ⟨rfl, m4⟩ := h4
  simp [Value.cells] at e4
  subst e4
  obtain ⟨v5, s5, e5, h5, b5⟩ := rd_str (enc := enc) _ _ _ _ g5 (by omega)
  obtain ⟨rfl, m5⟩ := h5
  simp [Value.cells] at e5
  subst e5
  obtain ⟨oa6, la6, ca6, l6, e6, r6, b6⟩ := Rd.row (rd_pl (enc := enc)) szPl_one Tryz.underlying46 cl24 (by decide) g6 (by omega)
  simp at e6
  subst e6
  refine ⟨.agg #[.int .i64 i0, .int .i64 i1, .string s2.loc, .slice po2 pl2 pc2, .int .i64 i3, .string s4, .string s5, .slice oa6 la6 ca6], ⟨i0, i1, s2, i3, s4, s5, l6⟩, by simp [Value.cells], ⟨i64_wf w0, i64_wf w1, i64_wf w3, m4, m5, m2, _, _, _, _, _, _, rfl, hp2, r6⟩, ?_⟩
  unfold szStm
  dsimp only
  omega
theorem szStm_one (x : Stm) : 1 ≤ szStm x := by unfold szStm; omega
theorem rd_trm : Rd enc W sp held 61 (trmV (fun _ => True) W) szTrm := by
  intro fuel cs d ps h hb
  obtain ⟨xs, n, _, hx, hl, hlen, hf⟩ := DataW.trod_struct Tryz.underlying61 h
  obtain ⟨y0, y1, y2, y3, y4, y5, y6, rfl⟩ := lis7 hlen
  rw [cl61] at hl
  obtain ⟨c0, c1, c2, c3, c4, c5, c6, c7, rfl⟩ := lis8 hl
  simp only [Prod.mk.injEq, List.map_cons, List.map_nil] at hx
  obtain ⟨rfl, _⟩ := hx
  rw [Rows.uptoBulk] at hb ⊢
  simp only [Rows.uptoBulkAll] at hb ⊢
  have g0 : DataW.trod enc Tryz.prog W 0 sp held n 3 [c0] = some y0 := by have := hf 0 _ rfl; simpa [cl3] using this
  have g1 : DataW.trod enc Tryz.prog W 0 sp held n 3 [c1] = some y1 := by have := hf 1 _ rfl; simpa [cl3] using this
  have g2 : DataW.trod enc Tryz.prog W 0 sp held n 24 [c2, c3] = some y2 := by have := hf 2 _ rfl; simpa [cl24] using this
  have g3 : DataW.trod enc Tryz.prog W 0 sp held n 9 [c4] = some y3 := by have := hf 3 _ rfl; simpa [cl9] using this
  have g4 : DataW.trod enc Tryz.prog W 0 sp held n 46 [c5] = some y4 := by have := hf 4 _ rfl; simpa [cl46] using this
  have g5 : DataW.trod enc Tryz.prog W 0 sp held n 22 [c6] = some y5 := by have := hf 5 _ rfl; simpa [cl22] using this
  have g6 : DataW.trod enc Tryz.prog W 0 sp held n 59 [c7] = some y6 := by have := hf 6 _ rfl; simpa [cl59] using this
  clear hf
  obtain ⟨i0, e0, f0, w0⟩ := DataW.trod_int Tryz.underlying3 g0
  simp at e0
  subst e0
  have b0 : Rows.uptoBulk y0.1 = 1 := by rw [f0]; rfl
  obtain ⟨i1, e1, f1, w1⟩ := DataW.trod_int Tryz.underlying3 g1
  simp at e1
  subst e1
  have b1 : Rows.uptoBulk y1.1 = 1 := by rw [f1]; rfl
  obtain ⟨v2, s2, e2, h2, b2⟩ := rd_pl (enc := enc) _ _ _ _ g2 (by omega)
  obtain ⟨m2, po2, pl2, pc2, rfl, hp2⟩ := h2
  simp [Value.cells] at e2
  obtain ⟨rfl, rfl⟩ := e2
  obtain ⟨v3, s3, e3, h3, b3⟩ := rd_str (enc := enc) _ _ _ _ g3 (by omega)
  obtain ⟨rfl, m3⟩ := h3
  simp [Value.cells] at e3
  subst e3
  obtain ⟨oa4, la4, ca4, l4, e4, r4, b4⟩ := Rd.row (rd_pl (enc := enc)) szPl_one Tryz.underlying46 cl24 (by decide) g4 (by omega)
  simp at e4
  subst e4
  obtain ⟨oa5, la5, ca5, l5, e5, r5, b5⟩ := Rd.row (rd_str (enc := enc)) szS_one Tryz.underlying22 cl9 (by decide) g5 (by omega)
  simp at e5
  subst e5
  obtain ⟨oa6, la6, ca6, l6, e6, r6, b6⟩ := Rd.row (rd_arm (enc := enc)) szArm_one Tryz.underlying59 cl94 (by decide) g6 (by omega)
  simp at e6
  subst e6
  refine ⟨.agg #[.int .i64 i0, .int .i64 i1, .string s2.loc, .slice po2 pl2 pc2, .string s3, .slice oa4 la4 ca4, .slice oa5 la5 ca5, .slice oa6 la6 ca6], ⟨i0, i1, s2, s3, l4, l5, l6⟩, by simp [Value.cells], ⟨i64_wf w0, i64_wf w1, m3, m2, _, _, _, _, _, _, _, _, _, _, _, _, rfl, hp2, r4, r5, r6⟩, ?_⟩
  unfold szTrm
  dsimp only
  omega
theorem szTrm_one (x : Trm) : 1 ≤ szTrm x := by unfold szTrm; omega
theorem rd_blk : Rd enc W sp held 64 (blkV (fun _ => True) W) szBlk := by
  intro fuel cs d ps h hb
  obtain ⟨xs, n, _, hx, hl, hlen, hf⟩ := DataW.trod_struct Tryz.underlying64 h
  obtain ⟨y0, y1, y2, y3, rfl⟩ := lis4 hlen
  rw [cl64] at hl
  obtain ⟨c0, c1, c2, c3, c4, c5, c6, c7, c8, c9, c10, rfl⟩ := lis11 hl
  simp only [Prod.mk.injEq, List.map_cons, List.map_nil] at hx
  obtain ⟨rfl, _⟩ := hx
  rw [Rows.uptoBulk] at hb ⊢
  simp only [Rows.uptoBulkAll] at hb ⊢
  have g0 : DataW.trod enc Tryz.prog W 0 sp held n 3 [c0] = some y0 := by have := hf 0 _ rfl; simpa [cl3] using this
  have g1 : DataW.trod enc Tryz.prog W 0 sp held n 9 [c1] = some y1 := by have := hf 1 _ rfl; simpa [cl9] using this
  have g2 : DataW.trod enc Tryz.prog W 0 sp held n 62 [c2] = some y2 := by have := hf 2 _ rfl; simpa [cl62] using this
  have g3 : DataW.trod enc Tryz.prog W 0 sp held n 61 [c3, c4, c5, c6, c7, c8, c9, c10] = some y3 := by have := hf 3 _ rfl; simpa [cl61] using this
  clear hf
  obtain ⟨i0, e0, f0, w0⟩ := DataW.trod_int Tryz.underlying3 g0
  simp at e0
  subst e0
  have b0 : Rows.uptoBulk y0.1 = 1 := by rw [f0]; rfl
  obtain ⟨v1, s1, e1, h1, b1⟩ := rd_str (enc := enc) _ _ _ _ g1 (by omega)
  obtain ⟨rfl, m1⟩ := h1
  simp [Value.cells] at e1
  subst e1
  obtain ⟨oa2, la2, ca2, l2, e2, r2, b2⟩ := Rd.row (rd_stm (enc := enc)) szStm_one Tryz.underlying62 cl68 (by decide) g2 (by omega)
  simp at e2
  subst e2
  obtain ⟨v3, s3, e3, h3, b3⟩ := rd_trm (enc := enc) _ _ _ _ g3 (by omega)
  have hh3 := h3
  obtain ⟨_, _, _, _, q1, q2, q3, q4, q5, q6, q7, q8, q9, q10, q11, q12, rfl, _⟩ := h3
  simp [Value.cells] at e3
  obtain ⟨rfl, rfl, rfl, rfl, rfl, rfl, rfl, rfl⟩ := e3
  refine ⟨.agg #[.int .i64 i0, .string s1, .slice oa2 la2 ca2, .int .i64 s3.pos, .int .i64 s3.kind, .string s3.dest.loc, .slice q1 q2 q3, .string s3.name, .slice q4 q5 q6, .slice q7 q8 q9, .slice q10 q11 q12], ⟨i0, s1, l2, s3⟩, by simp [Value.cells], ⟨i64_wf w0, m1, _, _, _, _, _, _, _, _, _, _, _, _, _, _, _, rfl, r2, hh3⟩, ?_⟩
  unfold szBlk
  dsimp only
  omega
theorem szBlk_one (x : Blk) : 1 ≤ szBlk x := by unfold szBlk; omega
theorem rd_fun : Rd enc W sp held 45 (funV (fun _ => True) W) szFun := by
  intro fuel cs d ps h hb
  obtain ⟨xs, n, _, hx, hl, hlen, hf⟩ := DataW.trod_struct Tryz.underlying45 h
  obtain ⟨y0, y1, y2, y3, y4, y5, rfl⟩ := lis6 hlen
  rw [cl45] at hl
  obtain ⟨c0, c1, c2, c3, c4, c5, rfl⟩ := lis6 hl
  simp only [Prod.mk.injEq, List.map_cons, List.map_nil] at hx
  obtain ⟨rfl, _⟩ := hx
  rw [Rows.uptoBulk] at hb ⊢
  simp only [Rows.uptoBulkAll] at hb ⊢
  have g0 : DataW.trod enc Tryz.prog W 0 sp held n 3 [c0] = some y0 := by have := hf 0 _ rfl; simpa [cl3] using this
  have g1 : DataW.trod enc Tryz.prog W 0 sp held n 9 [c1] = some y1 := by have := hf 1 _ rfl; simpa [cl9] using this
  have g2 : DataW.trod enc Tryz.prog W 0 sp held n 42 [c2] = some y2 := by have := hf 2 _ rfl; simpa [cl42] using this
  have g3 : DataW.trod enc Tryz.prog W 0 sp held n 42 [c3] = some y3 := by have := hf 3 _ rfl; simpa [cl42] using this
  have g4 : DataW.trod enc Tryz.prog W 0 sp held n 9 [c4] = some y4 := by have := hf 4 _ rfl; simpa [cl9] using this
  have g5 : DataW.trod enc Tryz.prog W 0 sp held n 43 [c5] = some y5 := by have := hf 5 _ rfl; simpa [cl43] using this
  clear hf
  obtain ⟨i0, e0, f0, w0⟩ := DataW.trod_int Tryz.underlying3 g0
  simp at e0
  subst e0
  have b0 : Rows.uptoBulk y0.1 = 1 := by rw [f0]; rfl
  obtain ⟨v1, s1, e1, h1, b1⟩ := rd_str (enc := enc) _ _ _ _ g1 (by omega)
  obtain ⟨rfl, m1⟩ := h1
  simp [Value.cells] at e1
  subst e1
  obtain ⟨oa2, la2, ca2, l2, e2, r2, b2⟩ := Rd.row (rd_vr (enc := enc)) szVr_one Tryz.underlying42 cl52 (by decide) g2 (by omega)
  simp at e2
  subst e2
  obtain ⟨oa3, la3, ca3, l3, e3, r3, b3⟩ := Rd.row (rd_vr (enc := enc)) szVr_one Tryz.underlying42 cl52 (by decide) g3 (by omega)
  simp at e3
  subst e3
  obtain ⟨v4, s4, e4, h4, b4⟩ := rd_str (enc := enc) _ _ _ _ g4 (by omega)
  obtain ⟨rfl, m4⟩ := h4
  simp [Value.cells] at e4
  subst e4
  obtain ⟨oa5, la5, ca5, l5, e5, r5, b5⟩ := Rd.row (rd_blk (enc := enc)) szBlk_one Tryz.underlying43 cl64 (by decide) g5 (by omega)
  simp at e5
  subst e5
  refine ⟨.agg #[.int .i64 i0, .string s1, .slice oa2 la2 ca2, .slice oa3 la3 ca3, .string s4, .slice oa5 la5 ca5], ⟨i0, s1, l2, l3, s4, l5⟩, by simp [Value.cells], ⟨i64_wf w0, m1, m4, _, _, _, _, _, _, _, _, _, rfl, r2, r3, r5⟩, ?_⟩
  unfold szFun
  dsimp only
  omega
theorem szFun_one (x : Fun) : 1 ≤ szFun x := by unfold szFun; omega
theorem rd_prg : Rd enc W sp held 36 (prgV (fun _ => True) W) szPrg := by
  intro fuel cs d ps h hb
  obtain ⟨xs, n, _, hx, hl, hlen, hf⟩ := DataW.trod_struct Tryz.underlying36 h
  obtain ⟨y0, y1, y2, rfl⟩ := lis3 hlen
  rw [cl36] at hl
  obtain ⟨c0, c1, c2, rfl⟩ := lis3 hl
  simp only [Prod.mk.injEq, List.map_cons, List.map_nil] at hx
  obtain ⟨rfl, _⟩ := hx
  rw [Rows.uptoBulk] at hb ⊢
  simp only [Rows.uptoBulkAll] at hb ⊢
  have g0 : DataW.trod enc Tryz.prog W 0 sp held n 32 [c0] = some y0 := by have := hf 0 _ rfl; simpa [cl32] using this
  have g1 : DataW.trod enc Tryz.prog W 0 sp held n 33 [c1] = some y1 := by have := hf 1 _ rfl; simpa [cl33] using this
  have g2 : DataW.trod enc Tryz.prog W 0 sp held n 34 [c2] = some y2 := by have := hf 2 _ rfl; simpa [cl34] using this
  clear hf
  obtain ⟨oa0, la0, ca0, l0, e0, r0, b0⟩ := Rd.row (rd_sct (enc := enc)) szSct_one Tryz.underlying32 cl58 (by decide) g0 (by omega)
  simp at e0
  subst e0
  obtain ⟨oa1, la1, ca1, l1, e1, r1, b1⟩ := Rd.row (rd_enm (enc := enc)) szEnm_one Tryz.underlying33 cl70 (by decide) g1 (by omega)
  simp at e1
  subst e1
  obtain ⟨oa2, la2, ca2, l2, e2, r2, b2⟩ := Rd.row (rd_fun (enc := enc)) szFun_one Tryz.underlying34 cl45 (by decide) g2 (by omega)
  simp at e2
  subst e2
  refine ⟨.agg #[.slice oa0 la0 ca0, .slice oa1 la1 ca1, .slice oa2 la2 ca2], ⟨l0, l1, l2⟩, by simp [Value.cells], ⟨_, _, _, _, _, _, _, _, _, rfl, r0, r1, r2⟩, ?_⟩
  unfold szPrg
  dsimp only
  omega
theorem szPrg_one (x : Prg) : 1 ≤ szPrg x := by unfold szPrg; omega
end
end Go.Proofs.YtpodeccpibnlbaaGreatDoor
