/- Memory words for the walks of this seat: a slice that owns a row of cells, what an append leaves of it, and worlds that keep all blocks but some. No program in sight. -/
import Derived.WalkKit
import Derived.WalkSpells
import Derived.WalkLawsBesides
namespace Go.Proofs.YtfdbmpcfphlmoaaDoor
set_option linter.unusedVariables false
set_option linter.unusedSimpArgs false
open Go.RowKit

/-- A fact that the walk's simp is not to use. -/
structure Hd (p : Prop) : Prop where
  out : p

theorem heap_drew (w : World) : w.drew.heap = w.heap := rfl

theorem cell_one_new' {w : World} {u : Value} {t : TypeId} (k : Nat) (n : Nat) (h : n = w.heap.size ∧ k = 0) : ((w.alloc (.cells #[u] t)).drew).cell? ⟨n, k, none⟩ = some u := by
  obtain ⟨rfl, rfl⟩ := h
  exact World.cell?_alloc_new w #[u] t 0

/-- The slice value over the head of block 'og' (none: nil). -/
def sv (og : Option Nat) (n c : Nat) : Value := .slice (og.map fun g => ⟨g, 0, none⟩) n c
theorem sv_some (g n c : Nat) : sv (some g) n c = .slice (some ⟨g, 0, none⟩) n c := rfl
theorem sv_none (n c : Nat) : sv none n c = .slice none n c := rfl

/-- Block og holds, from its head on, the cells xs of n elements; there is room for c. -/
structure Sl (w : World) (e size : Nat) (og : Option Nat) (n c : Nat) (xs : List Value) : Prop where
  len : xs.length = n * size
  le : n ≤ c
  max : c ≤ maxLen
  nil : og = none → c = 0
  row : ∀ g, og = some g → ∃ cur : Array Value, w.heap[g]? = some (.cells cur e (0, 0)) ∧ c * size ≤ cur.size ∧ cur.toList.take (n * size) = xs

theorem Sl.nilOf (w : World) (e size : Nat) : Sl w e size none 0 0 [] := ⟨by simp, Nat.le_refl _, Nat.zero_le _, fun _ => rfl, fun _ h => by cases h⟩

theorem Sl.lt {w : World} {e size : Nat} {og : Option Nat} {n c : Nat} {xs : List Value} (h : Sl w e size og n c xs) {g : Nat} (hg : og = some g) : g < w.heap.size := by
  obtain ⟨cur, hh, _⟩ := h.row g hg
  exact (Array.getElem?_eq_some_iff.1 hh).1

theorem Sl.keep {w w' : World} {e size : Nat} {og : Option Nat} {n c : Nat} {xs : List Value} (h : Sl w e size og n c xs)
    (hk : ∀ g, og = some g → w'.heap[g]? = w.heap[g]?) : Sl w' e size og n c xs :=
  ⟨h.len, h.le, h.max, h.nil, fun g hg => let ⟨cur, a, b⟩ := h.row g hg; ⟨cur, (hk g hg).trans a, b⟩⟩

theorem Sl.cell {w : World} {e size : Nat} {og : Option Nat} {n c : Nat} {xs : List Value} (h : Sl w e size og n c xs) {g : Nat} (hg : og = some g) {j : Nat} {v : Value}
    (hj : xs[j]? = some v) : w.cell? ⟨g, j, none⟩ = some v := by
  obtain ⟨cur, hh, _, ht⟩ := h.row g hg
  rw [← ht, List.getElem?_take] at hj
  split at hj
  · simp only [World.cell?, hh]
    simpa using hj
  · cases hj

theorem Sl.frozen {w : World} {e size : Nat} {og : Option Nat} {n c : Nat} {xs : List Value} (h : Sl w e size og n c xs) {g : Nat} (hg : og = some g) (j : Nat) :
    w.frozen? ⟨g, j, none⟩ = false := by
  obtain ⟨cur, hh, _⟩ := h.row g hg
  simp [World.frozen?, hh]

/-- There is an element: so there is a block. -/
theorem Sl.some_of {w : World} {e size : Nat} {og : Option Nat} {n c : Nat} {xs : List Value} (h : Sl w e size og n c xs) (hn : 0 < n) : ∃ g, og = some g := by
  cases og with
  | some g => exact ⟨g, rfl⟩
  | none => have := h.nil rfl; have := h.le; omega

/-- A store into the row. -/
theorem Sl.set {w : World} {e size : Nat} {og : Option Nat} {n c : Nat} {xs : List Value} (h : Sl w e size og n c xs) {g : Nat} (hg : og = some g) {j : Nat} (hj : j < xs.length) (v : Value) :
    Sl (w.setCell ⟨g, j, none⟩ v) e size og n c (xs.set j v) := by
  obtain ⟨cur, hh, hc, ht⟩ := h.row g hg
  refine ⟨by simpa using h.len, h.le, h.max, h.nil, fun g' hg' => ?_⟩
  obtain rfl : g = g' := Option.some.inj (hg.symm.trans hg')
  refine ⟨cur.setIfInBounds j v, ?_, by simpa using hc, ?_⟩
  · simp [World.setCell, Array.getElem?_modify, hh]
  · rw [Array.toList_setIfInBounds, List.take_set, ht]

/-- w' is w but for the blocks of S, and for new ones. -/
structure Mod (S : Nat → Prop) (w w' : World) : Prop where
  os : w'.os = w.os
  tape : w'.tape = w.tape
  output : w'.output = w.output
  size : w.heap.size ≤ w'.heap.size
  block : ∀ k, k < w.heap.size → ¬ S k → w'.heap[k]? = w.heap[k]?

theorem Mod.refl (S : Nat → Prop) (w : World) : Mod S w w := ⟨rfl, rfl, rfl, Nat.le_refl _, fun _ _ _ => rfl⟩
theorem Mod.trans {S T : Nat → Prop} {a b c : World} (h : Mod S a b) (k : Mod T b c) (hT : ∀ i, T i → S i ∨ a.heap.size ≤ i) : Mod S a c :=
  ⟨k.os.trans h.os, k.tape.trans h.tape, k.output.trans h.output, Nat.le_trans h.size k.size, fun i hi hS =>
    (k.block i (Nat.lt_of_lt_of_le hi h.size) (fun ht => (hT i ht).elim hS (fun hh => by omega))).trans (h.block i hi hS)⟩
theorem Mod.mono {S T : Nat → Prop} {a b : World} (h : Mod S a b) (hS : ∀ i, S i → T i) : Mod T a b :=
  ⟨h.os, h.tape, h.output, h.size, fun i hi hT => h.block i hi (fun hs => hT (hS i hs))⟩
theorem Mod.drew (S : Nat → Prop) (w : World) : Mod S w w.drew := ⟨rfl, rfl, rfl, Nat.le_refl _, fun _ _ _ => rfl⟩
theorem Mod.alloc (S : Nat → Prop) (w : World) (o : Obj) : Mod S w (w.alloc o) :=
  ⟨rfl, rfl, rfl, by simp, fun k hk _ => Below.heap_alloc w o k hk⟩
theorem Mod.setCell {S : Nat → Prop} (w : World) (a : Addr) (v : Value) (hS : S a.block) : Mod S w (w.setCell a v) :=
  ⟨rfl, rfl, rfl, by simp, fun k _ hk => Below.heap_setCell w a v k (fun e => hk (e ▸ hS))⟩
theorem Mod.below {S : Nat → Prop} {w w' : World} {B : Nat} (h : Mod S w w') (hB : B ≤ w.heap.size) (hS : ∀ k, k < B → ¬ S k) : Below B w w' :=
  ⟨h.os, h.tape, h.output, h.size, fun k hk => h.block k (by omega) (hS k hk)⟩

section
variable {P : Program}
/-- WHAT AN append LEAVES. -/
theorem run_append_sl (w : World) (t ty e : TypeId) (i : TypeInfo) (z : Value) (size bytes : Nat) (ht : P.underlying t = some (.slice e)) (hi : P.info? e = some i) (hz : i.zero = some z)
    (hsize : i.size = size) (hby : i.bytes = bytes) (hzs : z.cells.size = size) (hsz : 0 < size)
    (og : Option Nat) (n c : Nat) (xs : List Value) (hs : Sl w e size og n c xs)
    (ad : Addr) (m cx : Nat) (news : List Value) (hl : news.length = m * size) (hnews : ∀ j u, news[j]? = some u → w.cell? (ad.add j) = some u) (h1 : ∀ u ∈ news, u.oneCell' = true)
    (hm : 0 < m) (h63 : n + m ≤ maxLen) (hbytes : (n + m) * bytes ≤ 140737488355328) :
    ∃ g' c' w', (Builtin.append_ #[t, t] ty #[sv og n c, .slice (some ad) m cx]).run P w = .ok (sv (some g') (n + m) c') w' ∧
      Sl w' e size (some g') (n + m) c' (xs ++ news) ∧ (some g' = og ∨ w.heap.size ≤ g') ∧ Mod (fun k => some k = og) w w' := by
  have owned : ∀ v' w', w'.ownsRow w.heap.size e size v' (n + m) (xs ++ news) → w.grownBy w' none →
      ∃ g' c', v' = sv (some g') (n + m) c' ∧ Sl w' e size (some g') (n + m) c' (xs ++ news) ∧ w.heap.size ≤ g' ∧ Mod (fun k => some k = og) w w' := by
    intro v' w' ho hg
    rcases ho.2 with ⟨_, h0⟩ | ⟨g, cap, cur, rfl, hb, hh, hnc, hcm, hcs, htk⟩
    · omega
    · exact ⟨g, cap, rfl, ⟨ho.1, hnc, hcm, fun h => (by cases h), fun g' hg' => by obtain rfl := Option.some.inj hg'; exact ⟨cur, hh, by omega, htk⟩⟩, hb,
        ⟨hg.os, hg.tape, hg.output, hg.size, fun k hk _ => hg.block k hk (by simp)⟩⟩
  cases og with
  | none =>
    have hc := hs.nil rfl
    have hn0 : n = 0 := by have := hs.le; omega
    subst hc; subst hn0
    have hx : xs = [] := List.eq_nil_of_length_eq_zero (by simpa using hs.len)
    subst hx
    obtain ⟨v', w', hr, ho, hg, _⟩ := run_append_own (P := P) w w.heap.size t ty e i z size bytes ht hi hz hsize hby hzs hsz (.slice none 0 0) 0 [] (World.ownsRow_nil w _ e size) ad m cx news hl hnews h1 h63 hbytes (Nat.le_refl _)
    obtain ⟨g', c', rfl, hS, hge, hM⟩ := owned v' w' ho hg
    exact ⟨g', c', w', hr, hS, Or.inr hge, hM⟩
  | some g =>
    obtain ⟨cur, hh, hc, htk⟩ := hs.row g rfl
    by_cases hroom : n + m ≤ c
    · subst hsize
      have hmul : (n + m) * i.size ≤ c * i.size := Nat.mul_le_mul_right _ hroom
      have hfit : n * i.size + news.length ≤ cur.size := by rw [hl, ← Nat.add_mul]; omega
      have hr := run_append_room (P := P) w t ty e i ht hi g n c cur hh ad m cx news hl hnews h1 hroom hfit
      refine ⟨g, c, _, hr, ⟨?_, hroom, hs.max, fun h => (by cases h), fun g' hg' => ?_⟩, Or.inl rfl, ?_⟩
      · rw [List.length_append, hs.len, hl, Nat.add_mul]
      · obtain rfl := Option.some.inj hg'
        refine ⟨(cur.toList.take (n * i.size) ++ news ++ cur.toList.drop (n * i.size + news.length)).toArray, ?_, ?_, ?_⟩
        · simp [World.setRow, Array.getElem?_modify, hh]
        · simp [List.length_take]; omega
        · rw [htk, List.append_assoc, List.take_append, List.take_of_length_le (by rw [hs.len, Nat.add_mul]; omega), hs.len, Nat.add_mul, Nat.add_sub_cancel_left, List.take_append, List.take_of_length_le (by omega), hl]
          simp
      · refine ⟨rfl, rfl, rfl, by simp [World.setRow], fun k _ hk => ?_⟩
        simp only [World.setRow, Array.getElem?_modify]
        rw [if_neg (fun h => hk (by rw [h]))]
    · obtain ⟨v', w', hr, ho, hg⟩ := run_append_arg_grows (P := P) w t ty e i z size bytes ht hi hz hsize hby hzs hsz ⟨g, 0, none⟩ n c xs hs.len
        (fun j u hj => by rw [Addr.add_lit, Nat.zero_add]; exact hs.cell rfl hj) ad m cx news hl hnews (by omega) h63 hbytes
      obtain ⟨g', c', rfl, hS, hge, hM⟩ := owned v' w' ho hg
      exact ⟨g', c', w', hr, hS, Or.inr hge, hM⟩

theorem wpList_append_sl (w : World) {ops : Array Oper} {rest : List Oper} {o : Oper} {a : Act} {Q : Exit → Act → World → Prop}
    (hg : o.guard = none) (s x : Operand) (t : TypeId) (hop : o.op = Op.call { callee := Callee.builtin Builtin.append, args := #[s, x], argTypes := #[t, t] })
    (e : TypeId) (i : TypeInfo) (z : Value) (size bytes : Nat) (ht : P.underlying t = some (.slice e)) (hi : P.info? e = some i) (hz : i.zero = some z)
    (hsize : i.size = size) (hby : i.bytes = bytes) (hzs : z.cells.size = size) (hsz : 0 < size)
    (og : Option Nat) (n c : Nat) (xs : List Value) (hsv : a.eval s = sv og n c) (hs : Sl w e size og n c xs)
    (ad : Addr) (m cx : Nat) (news : List Value) (hx : a.eval x = .slice (some ad) m cx) (hl : news.length = m * size) (hnews : ∀ j u, news[j]? = some u → w.cell? (ad.add j) = some u) (h1 : ∀ u ∈ news, u.oneCell' = true)
    (hm : 0 < m) (h63 : n + m ≤ maxLen) (hbytes : (n + m) * bytes ≤ 140737488355328)
    (hK : ∀ g' c' w', Sl w' e size (some g') (n + m) c' (xs ++ news) → (some g' = og ∨ w.heap.size ≤ g') → Mod (fun k => some k = og) w w' →
      wpList P ops Q rest (a.put o.dst (.slice (some ⟨g', 0, none⟩) (n + m) c')) w') :
    wpList P ops Q (o :: rest) a w := by
  refine wpList_plain hg fun K hK' => ?_
  obtain ⟨g', c', w', hrun, r1, r2, r3⟩ := run_append_sl (P := P) w t o.type e i z size bytes ht hi hz hsize hby hzs hsz og n c xs hs ad m cx news hl hnews h1 hm h63 hbytes
  unfold Oper.wp
  simp [execOp, hop, resolve, invoke, builtin, hsv, hx, hrun, Result.andThen]
  exact hK' _ _ (hK g' c' w' r1 r2 r3)
end
end Go.Proofs.YtfdbmpcfphlmoaaDoor
