/- Memory words: an append whose source may be nil. No program in sight. -/
import Derived.Test.YtpgoogjaoffdoaaM4
namespace Go.Proofs.Ytpgoogjaoffdoaa
set_option linter.unusedVariables false
set_option linter.unusedSimpArgs false
open Go.RowKit

section
variable {P : Program}

/-- The source is a slice that owns a row, or nil. -/
theorem run_append_src (w : World) (t ty e : TypeId) (i : TypeInfo) (z : Value) (bytes : Nat) (ht : P.underlying t = some (.slice e)) (hi : P.info? e = some i) (hz : i.zero = some z)
    (hsize : i.size = 1) (hby : i.bytes = bytes) (hzs : z.cells.size = 1)
    (g n c : Nat) (xs : List Value) (hs : Sl w e 1 (some g) n c xs)
    (og : Option Nat) (m cx : Nat) (news : List Value) (hx : Sl w e 1 og m cx news) (h1 : ∀ u ∈ news, u.oneCell' = true)
    (h63 : n + m ≤ maxLen) (hbytes : (n + m) * bytes ≤ 140737488355328) :
    ∃ g' c' w', (Builtin.append_ #[t, t] ty #[sv (some g) n c, sv og m cx]).run P w = .ok (sv (some g') (n + m) c') w' ∧
      Sl w' e 1 (some g') (n + m) c' (xs ++ news) ∧ (g' = g ∨ w.heap.size ≤ g') ∧ Mod (fun k => k = g) w w' := by
  cases og with
  | some gx =>
    exact run_append_sls w t ty e i z bytes ht hi hz hsize hby hzs g n c xs hs ⟨gx, 0, none⟩ m cx news (by simpa using hx.len) (fun j u hj => by rw [Addr.add_lit, Nat.zero_add]; exact hx.cell rfl hj) h1 h63 hbytes
  | none =>
    have hc := hx.nil rfl
    have hm : m = 0 := by have := hx.le; omega
    subst hm
    have hn : news = [] := List.eq_nil_of_length_eq_zero (by simpa using hx.len)
    subst hn
    exact ⟨g, c, w, run_append_sl0 w t ty e i 1 ht hi hsize (some g) n c hs.le none cx, by simpa using hs, Or.inl rfl, Mod.refl _ _⟩
theorem step_append_src {ops : Array Oper} {o : Oper} {a : Act} {w : World} {K : Act → World → Prop} {Q : Exit → Act → World → Prop} {E : Prop}
    (hg : o.guard = none) (s x : Operand) (t : TypeId) (hop : o.op = Op.call { callee := Callee.builtin Builtin.append, args := #[s, x], argTypes := #[t, t] })
    (e : TypeId) (i : TypeInfo) (z : Value) (bytes : Nat) (ht : P.underlying t = some (.slice e)) (hi : P.info? e = some i) (hz : i.zero = some z)
    (hsize : i.size = 1) (hby : i.bytes = bytes) (hzs : z.cells.size = 1)
    (g n c : Nat) (xs : List Value) (hsv : a.eval s = sv (some g) n c) (hs : Sl w e 1 (some g) n c xs)
    (og : Option Nat) (m cx : Nat) (news : List Value) (hxv : a.eval x = sv og m cx) (hx : Sl w e 1 og m cx news) (h1 : ∀ u ∈ news, u.oneCell' = true)
    (h63 : n + m ≤ maxLen) (hbytes : (n + m) * bytes ≤ 140737488355328)
    (hK : ∀ g' c' w', Sl w' e 1 (some g') (n + m) c' (xs ++ news) → (g' = g ∨ w.heap.size ≤ g') → Mod (fun k => k = g) w w' →
      K (a.put o.dst (.slice (some ⟨g', 0, none⟩) (n + m) c')) w') :
    if Region.wanted o (yielded ops a.tmps) = true then Oper.wp P o a w K Q else E := by
  have hw : Region.wanted o (yielded ops a.tmps) = true := by simp [Region.wanted, hg]
  rw [if_pos hw]
  obtain ⟨g', c', w', hrun, r1, r2, r3⟩ := run_append_src (P := P) w t o.type e i z bytes ht hi hz hsize hby hzs g n c xs hs og m cx news hx h1 h63 hbytes
  unfold Oper.wp
  simp [execOp, hop, resolve, invoke, builtin, hsv, hxv, hrun, Result.andThen]
  exact hK g' c' w' r1 r2 r3

theorem wpList_append_src (w : World) {ops : Array Oper} {rest : List Oper} {o : Oper} {a : Act} {Q : Exit → Act → World → Prop}
    (hg : o.guard = none) (s x : Operand) (t : TypeId) (hop : o.op = Op.call { callee := Callee.builtin Builtin.append, args := #[s, x], argTypes := #[t, t] })
    (e : TypeId) (i : TypeInfo) (z : Value) (bytes : Nat) (ht : P.underlying t = some (.slice e)) (hi : P.info? e = some i) (hz : i.zero = some z)
    (hsize : i.size = 1) (hby : i.bytes = bytes) (hzs : z.cells.size = 1)
    (g n c : Nat) (xs : List Value) (hsv : a.eval s = sv (some g) n c) (hs : Sl w e 1 (some g) n c xs)
    (og : Option Nat) (m cx : Nat) (news : List Value) (hxv : a.eval x = sv og m cx) (hx : Sl w e 1 og m cx news) (h1 : ∀ u ∈ news, u.oneCell' = true)
    (h63 : n + m ≤ maxLen) (hbytes : (n + m) * bytes ≤ 140737488355328)
    (hK : ∀ g' c' w', Sl w' e 1 (some g') (n + m) c' (xs ++ news) → (g' = g ∨ w.heap.size ≤ g') → Mod (fun k => k = g) w w' →
      wpList P ops Q rest (a.put o.dst (.slice (some ⟨g', 0, none⟩) (n + m) c')) w') :
    wpList P ops Q (o :: rest) a w := by
  refine wpList_plain hg fun K hK' => ?_
  obtain ⟨g', c', w', hrun, r1, r2, r3⟩ := run_append_src (P := P) w t o.type e i z bytes ht hi hz hsize hby hzs g n c xs hs og m cx news hx h1 h63 hbytes
  unfold Oper.wp
  simp [execOp, hop, resolve, invoke, builtin, hsv, hxv, hrun, Result.andThen]
  exact hK' _ _ (hK g' c' w' r1 r2 r3)

/-- A new row without elements. -/
theorem Sl.fresh (w : World) (e : TypeId) : Sl (w.alloc (.cells #[] e)).drew e 1 (some w.heap.size) 0 0 [] := by
  refine ⟨rfl, Nat.le_refl _, Nat.zero_le _, fun h => by (cases h), fun g hg => ?_⟩
  obtain rfl := Option.some.inj hg
  exact ⟨#[], heap_alloc_new w _, by simp, by simp⟩

theorem Sl.fresh2 (w : World) (e : TypeId) (o : Obj) : Sl ((w.alloc (.cells #[] e)).alloc o).drew e 1 (some w.heap.size) 0 0 [] := by
  refine ⟨rfl, Nat.le_refl _, Nat.zero_le _, fun h => by (cases h), fun g hg => ?_⟩
  obtain rfl := Option.some.inj hg
  exact ⟨#[], by rw [heap_drew, Below.heap_alloc _ _ _ (by simp)]; exact heap_alloc_new w _, by simp, by simp⟩
theorem Sl.fresh3 (w : World) (e : TypeId) (o : Obj) : Sl ((w.alloc o).alloc (.cells #[] e)).drew e 1 (some (w.heap.size + 1)) 0 0 [] := by
  refine ⟨rfl, Nat.le_refl _, Nat.zero_le _, fun h => by (cases h), fun g hg => ?_⟩
  obtain rfl := Option.some.inj hg
  refine ⟨#[], ?_, by simp, by simp⟩
  have := heap_alloc_new (w.alloc o) (.cells #[] e)
  simpa [heap_drew] using this

/-- A new row, got out of one that was laid empty ahead of the append. -/
theorem fresh1 {w w5 : World} {e : TypeId} {g1 n c1 : Nat} {ys : List Value} (hS : Sl w5 e 1 (some g1) n c1 ys) (hor : g1 = w.heap.size ∨ (w.alloc (.cells #[] e)).drew.heap.size ≤ g1) (hM : Mod (fun k => k = w.heap.size) (w.alloc (.cells #[] e)).drew w5) :
    Sl w5 e 1 (some g1) n c1 ys ∧ w.heap.size ≤ g1 ∧ Mod (fun _ => False) w w5 :=
  ⟨hS, by rcases hor with h | h <;> (try simp at h) <;> omega, ((Mod.alloc _ w _).trans (Mod.drew _ _) (fun _ h => Or.inl h)).trans hM (fun k hk => Or.inr (by omega))⟩
/-- The same with another block in between. -/
theorem fresh2 {w w5 : World} {o : Obj} {e : TypeId} {g1 n c1 : Nat} {ys : List Value} (hS : Sl w5 e 1 (some g1) n c1 ys) (hor : g1 = w.heap.size ∨ ((w.alloc (.cells #[] e)).alloc o).drew.heap.size ≤ g1) (hM : Mod (fun k => k = w.heap.size) ((w.alloc (.cells #[] e)).alloc o).drew w5) :
    Sl w5 e 1 (some g1) n c1 ys ∧ w.heap.size ≤ g1 ∧ Mod (fun _ => False) w w5 ∧ w5.heap[w.heap.size + 1]? = some o ∧ g1 ≠ w.heap.size + 1 := by
  refine ⟨hS, by rcases hor with h | h <;> (try simp at h) <;> omega, (((Mod.alloc _ w _).trans (Mod.alloc _ _ o) (fun _ h => Or.inl h)).trans (Mod.drew _ _) (fun _ h => Or.inl h)).trans hM (fun k hk => Or.inr (by omega)), ?_, by rcases hor with h | h <;> (try simp at h) <;> omega⟩
  rw [hM.block _ (by simp [heap_drew]) (by omega), heap_drew]
  have := heap_alloc_new (w.alloc (.cells #[] e)) o
  simpa using this
theorem fresh3 {w w5 : World} {o : Obj} {e : TypeId} {g1 n c1 : Nat} {ys : List Value} (hS : Sl w5 e 1 (some g1) n c1 ys) (hor : g1 = w.heap.size + 1 ∨ ((w.alloc o).alloc (.cells #[] e)).drew.heap.size ≤ g1) (hM : Mod (fun k => k = w.heap.size + 1) ((w.alloc o).alloc (.cells #[] e)).drew w5) :
    Sl w5 e 1 (some g1) n c1 ys ∧ w.heap.size ≤ g1 ∧ Mod (fun _ => False) w w5 ∧ w5.heap[w.heap.size]? = some o ∧ g1 ≠ w.heap.size := by
  refine ⟨hS, by rcases hor with h | h <;> (try simp at h) <;> omega, (((Mod.alloc _ w o).trans (Mod.alloc _ _ _) (fun _ h => Or.inl h)).trans (Mod.drew _ _) (fun _ h => Or.inl h)).trans hM (fun k hk => Or.inr (by omega)), ?_, by rcases hor with h | h <;> (try simp at h) <;> omega⟩
  rw [hM.block _ (by simp [heap_drew]; omega) (by omega), heap_drew, Below.heap_alloc _ _ _ (by simp)]
  exact heap_alloc_new w o
/-- One more append behind it. -/
theorem fresh4 {w w5 w6 : World} {e : TypeId} {g1 g2 n c2 : Nat} {ys : List Value} (h5 : w.heap.size ≤ g1 ∧ Mod (fun _ => False) w w5) (hS : Sl w6 e 1 (some g2) n c2 ys) (hor : g2 = g1 ∨ w5.heap.size ≤ g2) (hM : Mod (fun k => k = g1) w5 w6) :
    Sl w6 e 1 (some g2) n c2 ys ∧ w.heap.size ≤ g2 ∧ Mod (fun _ => False) w w6 :=
  ⟨hS, by have := h5.2.size; rcases hor with h | h <;> omega, h5.2.trans hM (fun k hk => Or.inr (by omega))⟩
theorem one_only (u : Value) (h : u.oneCell' = true) : ∀ v ∈ [u], v.oneCell' = true := by
  intro v hv
  simp at hv
  subst hv
  exact h
theorem one_at {w : World} {u : Value} {t : TypeId} {a : Nat} (h : w.heap[a]? = some (.cells #[u] t)) : ∀ j v, [u][j]? = some v → w.cell? ((⟨a, 0, none⟩ : Addr).add j) = some v := by
  intro j v hj
  rw [Addr.add_lit]
  cases j with
  | zero =>
    simp at hj
    subst hj
    simp [World.cell?, h]
  | succ j => simp at hj
end
end Go.Proofs.Ytpgoogjaoffdoaa
