/- Memory words, the rest: an append of no or of many elements to a row of the call's own; a slice of such a row. No program in sight. -/
import Derived.Test.YtpgoogjaoffdoaaM2
namespace Go.Proofs.Ytpgoogjaoffdoaa
set_option linter.unusedVariables false
set_option linter.unusedSimpArgs false
open Go.RowKit

section
variable {P : Program}

theorem run_append_sl0 (w : World) (t ty e : TypeId) (i : TypeInfo) (size : Nat) (ht : P.underlying t = some (.slice e)) (hi : P.info? e = some i) (hsize : i.size = size)
    (og : Option Nat) (n c : Nat) (hle : n ≤ c) (oa : Option Addr) (cx : Nat) :
    (Builtin.append_ #[t, t] ty #[sv og n c, .slice oa 0 cx]).run P w = .ok (sv og n c) w := by
  cases og <;> cases oa <;> simp [Builtin.append_, run_underlying ht, sizeOf, typeInfo, hi, Result.andThen, Builtin.lenOf, hle, Builtin.firstCells, loadCells, loadCellsFrom, storeCells, sv]

/-- Any number of one-cell elements, to a row that has a block. -/
theorem run_append_sls (w : World) (t ty e : TypeId) (i : TypeInfo) (z : Value) (bytes : Nat) (ht : P.underlying t = some (.slice e)) (hi : P.info? e = some i) (hz : i.zero = some z)
    (hsize : i.size = 1) (hby : i.bytes = bytes) (hzs : z.cells.size = 1)
    (g n c : Nat) (xs : List Value) (hs : Sl w e 1 (some g) n c xs)
    (ad : Addr) (m cx : Nat) (news : List Value) (hl : news.length = m) (hnews : ∀ j u, news[j]? = some u → w.cell? (ad.add j) = some u) (h1 : ∀ u ∈ news, u.oneCell' = true)
    (h63 : n + m ≤ maxLen) (hbytes : (n + m) * bytes ≤ 140737488355328) :
    ∃ g' c' w', (Builtin.append_ #[t, t] ty #[sv (some g) n c, .slice (some ad) m cx]).run P w = .ok (sv (some g') (n + m) c') w' ∧
      Sl w' e 1 (some g') (n + m) c' (xs ++ news) ∧ (g' = g ∨ w.heap.size ≤ g') ∧ Mod (fun k => k = g) w w' := by
  cases m with
  | zero =>
    have hn : news = [] := List.eq_nil_of_length_eq_zero hl
    subst hn
    exact ⟨g, c, w, run_append_sl0 w t ty e i 1 ht hi hsize (some g) n c hs.le (some ad) cx, by simpa using hs, Or.inl rfl, Mod.refl _ _⟩
  | succ m =>
    obtain ⟨g', c', w', h2, h3, h4, h5⟩ := run_append_sl (P := P) w t ty e i z 1 bytes ht hi hz hsize hby hzs (by omega) (some g) n c xs hs ad (m + 1) cx news (by omega) hnews h1 (by omega) h63 hbytes
    refine ⟨g', c', w', h2, h3, ?_, h5.mono fun k hk => Option.some.inj hk⟩
    rcases h4 with h | h
    · exact Or.inl (Option.some.inj h)
    · exact Or.inr h

/-- xs[:k]. -/
theorem run_slice_low (t e : TypeId) (i : TypeInfo) (ht : P.underlying t = some (.slice e)) (hi : P.info? e = some i) (a : Addr) (n c k : Nat) (hk : k ≤ n) (hn : n ≤ c) (w : World) :
    (Instr.slice t (.slice (some a) n c) none (some (.int .i64 (k : Int))) none).run P w = .ok (.slice (some a) k c) w := by
  have h1 : k ≤ c := by omega
  by_cases hc : c = 0
  · subst hc
    have hk0 : k = 0 := by omega
    subst hk0
    simp [Instr.slice, run_underlying ht, Instr.sliceBounds, Instr.sliceBound, asIntOf, Result.andThen, sizeOf, typeInfo, hi]
  · simp [Instr.slice, run_underlying ht, Instr.sliceBounds, Instr.sliceBound, asIntOf, Result.andThen, sizeOf, typeInfo, hi, h1, hc, Addr.add]

/-- xs[k:]. -/
theorem run_slice_high (t e : TypeId) (i : TypeInfo) (ht : P.underlying t = some (.slice e)) (hi : P.info? e = some i) (hsize : i.size = 1) (g n c k : Nat) (hk : k ≤ n) (hn : n ≤ c) :
    ∃ ad : Addr, (∀ w, (Instr.slice t (.slice (some ⟨g, 0, none⟩) n c) (some (.int .i64 (k : Int))) none none).run P w = .ok (.slice (some ad) (n - k) (c - k)) w) ∧ (k < n → ad = ⟨g, k, none⟩) := by
  have h1 : k ≤ n := by omega
  by_cases hc : c = k
  · subst hc
    exact ⟨⟨g, 0, none⟩, fun w => by simp [Instr.slice, run_underlying ht, Instr.sliceBounds, Instr.sliceBound, asIntOf, Result.andThen, sizeOf, typeInfo, hi, h1], fun h => by omega⟩
  · refine ⟨⟨g, k, none⟩, fun w => ?_, fun _ => rfl⟩
    by_cases hk0 : k = 0
    · subst hk0
      simp [Instr.slice, run_underlying ht, Instr.sliceBounds, Instr.sliceBound, asIntOf, Result.andThen, sizeOf, typeInfo, hi, Addr.add, hc]
    · simp [Instr.slice, run_underlying ht, Instr.sliceBounds, Instr.sliceBound, asIntOf, Result.andThen, sizeOf, typeInfo, hi, h1, hc, hsize, Addr.add, hk0]

theorem step_append_sls {ops : Array Oper} {o : Oper} {a : Act} {w : World} {K : Act → World → Prop} {Q : Exit → Act → World → Prop} {E : Prop}
    (hg : o.guard = none) (s x : Operand) (t : TypeId) (hop : o.op = Op.call { callee := Callee.builtin Builtin.append, args := #[s, x], argTypes := #[t, t] })
    (e : TypeId) (i : TypeInfo) (z : Value) (bytes : Nat) (ht : P.underlying t = some (.slice e)) (hi : P.info? e = some i) (hz : i.zero = some z)
    (hsize : i.size = 1) (hby : i.bytes = bytes) (hzs : z.cells.size = 1)
    (g n c : Nat) (xs : List Value) (hsv : a.eval s = sv (some g) n c) (hs : Sl w e 1 (some g) n c xs)
    (ad : Addr) (m cx : Nat) (news : List Value) (hx : a.eval x = .slice (some ad) m cx) (hl : news.length = m) (hnews : ∀ j u, news[j]? = some u → w.cell? (ad.add j) = some u) (h1 : ∀ u ∈ news, u.oneCell' = true)
    (h63 : n + m ≤ maxLen) (hbytes : (n + m) * bytes ≤ 140737488355328)
    (hK : ∀ g' c' w', Sl w' e 1 (some g') (n + m) c' (xs ++ news) → (g' = g ∨ w.heap.size ≤ g') → Mod (fun k => k = g) w w' →
      K (a.put o.dst (.slice (some ⟨g', 0, none⟩) (n + m) c')) w') :
    if Region.wanted o (yielded ops a.tmps) = true then Oper.wp P o a w K Q else E := by
  have hw : Region.wanted o (yielded ops a.tmps) = true := by simp [Region.wanted, hg]
  rw [if_pos hw]
  obtain ⟨g', c', w', hrun, r1, r2, r3⟩ := run_append_sls (P := P) w t o.type e i z bytes ht hi hz hsize hby hzs g n c xs hs ad m cx news hl hnews h1 h63 hbytes
  unfold Oper.wp
  simp [execOp, hop, resolve, invoke, builtin, hsv, hx, hrun, Result.andThen]
  exact hK g' c' w' r1 r2 r3
end
end Go.Proofs.Ytpgoogjaoffdoaa
