/- A row at the head of a block, as data: where it lies, and what an append of one element leaves. No program in sight. -/
import Derived.Test.YtpodeccpibnlbaaGreatDoorG11
import Derived.Test.YtpodeccpibnlbaaGreatDoorG01
namespace Go.Proofs.YtpodeccpibnlbaaGreatDoor
set_option linter.unusedVariables false
set_option linter.unusedSimpArgs false
open Go.RowKit
/-- The row at the head of block og, whose elements are P. -/
def OwnS {α : Type} (w : World) (e n : Nat) (og : Option Nat) (c : Nat) (V : Value → α → Prop) (P : List α) : Prop :=
  ∃ xs, Sl w e n og P.length c xs ∧ ∀ i x, P[i]? = some x → ∃ u, V u x ∧ ∀ k y, u.cells[k]? = some y → xs[i * n + k]? = some y
section
variable {α : Type} {w w' : World} {e n : Nat} {og : Option Nat} {c : Nat} {V : Value → α → Prop} {P : List α}
theorem OwnS.keep (h : OwnS w e n og c V P) (hk : ∀ g, og = some g → w'.heap[g]? = w.heap[g]?) : OwnS w' e n og c V P := by
  obtain ⟨xs, h1, h2⟩ := h
  exact ⟨xs, h1.keep hk, h2⟩
theorem OwnS.blk (h : OwnS w e n og c V P) {g : Nat} (hg : og = some g) : ∃ cur, w.heap[g]? = some (.cells cur e (0, 0)) := by
  obtain ⟨xs, h1, _⟩ := h
  obtain ⟨cur, h2, _⟩ := h1.row g hg
  exact ⟨cur, h2⟩
theorem OwnS.ne (h : OwnS w e n og c V P) {k : Nat} {cs : Array Value} {t : TypeId} {fr : Nat × Nat} (hk : w.heap[k]? = some (.cells cs t fr)) (ht : e ≠ t) : og ≠ some k := fun hg => by
  obtain ⟨cur, h2⟩ := h.blk hg
  rw [hk] at h2
  simp only [Option.some.injEq, Obj.cells.injEq] at h2
  exact ht h2.2.1.symm
theorem OwnS.lt (h : OwnS w e n og c V P) {g : Nat} (hg : og = some g) : g < w.heap.size := by
  obtain ⟨cur, h2⟩ := h.blk hg
  exact (Array.getElem?_eq_some_iff.1 h2).1
theorem OwnS.of_sr {S : Nat → Prop} {B : Nat} {oa : Option Addr} {cap : Nat} (h : SR S w n V oa P.length cap P) (hr : Rw B w e n oa cap) (hV : ∀ v x, V v x → v.cells.size = n) :
    ∃ og, oa = og.map (fun g => ⟨g, 0, none⟩) ∧ OwnS w e n og cap V P ∧ ∀ g, og = some g → B ≤ g := by
  rcases hr with ⟨rfl, rfl⟩ | ⟨g, cur, rfl, hB, h1, h2⟩
  · have hP : P = [] := h.nil_of rfl
    subst hP
    exact ⟨none, rfl, ⟨[], by simpa using Sl.nilOf w e n, fun i x hi => by simp at hi⟩, fun g hg => by cases hg⟩
  · have hle := Nat.mul_le_mul_right n h.hle
    refine ⟨some g, rfl, ⟨cur.toList.take (P.length * n), ⟨by simp; omega, h.hle, h.hmax, fun hh => (by cases hh), fun g' hg' => by
      obtain rfl := Option.some.inj hg'
      exact ⟨cur, h1, by omega, rfl⟩⟩, fun i x hi => ?_⟩, fun g' hg' => by obtain rfl := Option.some.inj hg'; exact hB⟩
    obtain ⟨b, o, v, e1, _, _, e4, e5⟩ := h.at' i x hi
    simp only [Option.some.injEq, Addr.mk.injEq] at e1
    obtain ⟨rfl, rfl, _⟩ := e1
    refine ⟨v, e5, fun k u hu => ?_⟩
    have hk : k < n := by
      have := (Array.getElem?_eq_some_iff.1 hu).1
      rwa [hV v x e5] at this
    have hi' := (List.getElem?_eq_some_iff.1 hi).1
    have hm : (i + 1) * n ≤ P.length * n := Nat.mul_le_mul_right _ hi'
    rw [Nat.add_mul, Nat.one_mul] at hm
    have h4 := e4 k u hu
    rw [Nat.zero_add] at h4
    rw [List.getElem?_take, if_pos (by omega)]
    simpa [World.cell?, h1] using h4
/-- The row read as a row of elements. -/
theorem OwnS.sr (h : OwnS w e n og c V P) (hb : P.length ≤ 1048576) : SR (fun b => og = some b) w n V (og.map fun g => ⟨g, 0, none⟩) P.length c P := by
  obtain ⟨xs, h1, h2⟩ := h
  refine ⟨rfl, hb, h1.le, h1.max, fun i x hi => ?_⟩
  obtain ⟨u, k1, k2⟩ := h2 i x hi
  have hlt := (List.getElem?_eq_some_iff.1 hi).1
  obtain ⟨g, rfl⟩ := h1.some_of (by omega)
  exact ⟨g, 0, u, rfl, rfl, h1.lt rfl, fun k y hy => by rw [Nat.zero_add]; exact h1.cell rfl (k2 k y hy), k1⟩
section
variable {Pg : Program}
theorem run_append_o (w : World) (t ty e : TypeId) (i : TypeInfo) (z : Value) (size bytes : Nat) (ht : Pg.underlying t = some (.slice e)) (hi : Pg.info? e = some i) (hz : i.zero = some z)
    (hsize : i.size = size) (hby : i.bytes = bytes) (hzs : z.cells.size = size) (hsz : 0 < size) (og : Option Nat) (c : Nat) (P : List α) (hO : OwnS w e size og c V P)
    (kq cap1 : Nat) (q : α) (u : Value) (hu : V u q) (hcs : u.cells.size = size) (hcells : ∀ j y, u.cells[j]? = some y → w.cell? ⟨kq, j, none⟩ = some y) (h1 : ∀ y ∈ u.cells, y.oneCell' = true)
    (h63 : P.length + 1 ≤ maxLen) (hbytes : (P.length + 1) * bytes ≤ 140737488355328) :
    ∃ g' c' w', (Builtin.append_ #[t, t] ty #[sv og P.length c, .slice (some ⟨kq, 0, none⟩) 1 cap1]).run Pg w = .ok (sv (some g') (P.length + 1) c') w' ∧
      OwnS w' e size (some g') c' V (P ++ [q]) ∧ ((some g' = og ∧ P.length + 1 ≤ c ∧ Mod (fun k => some k = og) w w') ∨ (w.heap.size ≤ g' ∧ Mod (fun _ => False) w w')) := by
  obtain ⟨xs, hs, hel⟩ := hO
  have hl : u.cells.toList.length = 1 * size := by simp [hcs]
  have hnews : ∀ j y, u.cells.toList[j]? = some y → w.cell? ((⟨kq, 0, none⟩ : Addr).add j) = some y := fun j y hy => by
    rw [Addr.add_lit, Nat.zero_add]
    exact hcells j y (by simpa using hy)
  have h1' : ∀ y ∈ u.cells.toList, y.oneCell' = true := fun y hy => h1 y (by simpa using hy)
  have elems : ∀ i x, (P ++ [q])[i]? = some x → ∃ u', V u' x ∧ ∀ k y, u'.cells[k]? = some y → (xs ++ u.cells.toList)[i * size + k]? = some y := fun i x hx => by
    by_cases hlt : i < P.length
    · rw [List.getElem?_append_left hlt] at hx
      obtain ⟨u', k1, k2⟩ := hel i x hx
      refine ⟨u', k1, fun k y hy => ?_⟩
      have h3 := k2 k y hy
      rw [List.getElem?_append_left (List.getElem?_eq_some_iff.1 h3).1]
      exact h3
    · have hi' := (List.getElem?_eq_some_iff.1 hx).1
      rw [List.length_append, List.length_singleton] at hi'
      have : i = P.length := by omega
      subst this
      rw [List.getElem?_append_right (by omega)] at hx
      simp at hx
      subst hx
      refine ⟨u, hu, fun k y hy => ?_⟩
      rw [List.getElem?_append_right (by rw [hs.len]; omega), hs.len, Nat.add_sub_cancel_left]
      simpa using hy
  have own : ∀ v' w', w'.ownsRow w.heap.size e size v' (P.length + 1) (xs ++ u.cells.toList) → w.grownBy w' none →
      ∃ g' c', v' = sv (some g') (P.length + 1) c' ∧ OwnS w' e size (some g') c' V (P ++ [q]) ∧ w.heap.size ≤ g' ∧ Mod (fun _ => False) w w' := fun v' w' ho hg => by
    rcases ho.2 with ⟨_, h0⟩ | ⟨g, cap, cur, rfl, hb, hh, hnc, hcm, hcs', htk⟩
    · omega
    · refine ⟨g, cap, rfl, ⟨xs ++ u.cells.toList, ⟨by rw [ho.1]; simp, by simpa using hnc, hcm, fun h => (by cases h), fun g' hg' => by
        obtain rfl := Option.some.inj hg'
        exact ⟨cur, hh, by omega, by simpa using htk⟩⟩, elems⟩, hb, ⟨hg.os, hg.tape, hg.output, hg.size, fun k hk _ => hg.block k hk (by simp)⟩⟩
  cases og with
  | none =>
    have hc := hs.nil rfl
    have hn0 : P.length = 0 := by have := hs.le; omega
    have hx : xs = [] := List.eq_nil_of_length_eq_zero (by rw [hs.len, hn0]; simp)
    subst hx
    subst hc
    rw [hn0] at own h63 hbytes ⊢
    obtain ⟨v', w', hr, ho, hg, _⟩ := run_append_own (P := Pg) w w.heap.size t ty e i z size bytes ht hi hz hsize hby hzs hsz (.slice none 0 0) 0 [] (World.ownsRow_nil w _ e size) ⟨kq, 0, none⟩ 1 cap1 u.cells.toList hl hnews h1' (by simpa using h63) (by simpa using hbytes) (Nat.le_refl _)
    obtain ⟨g', c', rfl, hS, hge, hM⟩ := own v' w' (by simpa using ho) hg
    exact ⟨g', c', w', by simpa [sv_none] using hr, hS, Or.inr ⟨hge, hM⟩⟩
  | some g =>
    obtain ⟨cur, hh, hc, htk⟩ := hs.row g rfl
    by_cases hroom : P.length + 1 ≤ c
    · subst hsize
      have hmul : (P.length + 1) * i.size ≤ c * i.size := Nat.mul_le_mul_right _ hroom
      have hfit : P.length * i.size + u.cells.toList.length ≤ cur.size := by rw [hl, ← Nat.add_mul]; omega
      have hr := run_append_room (P := Pg) w t ty e i ht hi g P.length c cur hh ⟨kq, 0, none⟩ 1 cap1 u.cells.toList hl hnews h1' hroom hfit
      refine ⟨g, c, _, hr, ⟨xs ++ u.cells.toList, ⟨?_, by simpa using hroom, hs.max, fun h => (by cases h), fun g' hg' => ?_⟩, elems⟩, Or.inl ⟨rfl, hroom, ?_⟩⟩
      · rw [List.length_append, hs.len, hl, ← Nat.add_mul]; simp
      · obtain rfl := Option.some.inj hg'
        refine ⟨(cur.toList.take (P.length * i.size) ++ u.cells.toList ++ cur.toList.drop (P.length * i.size + u.cells.toList.length)).toArray, ?_, ?_, ?_⟩
        · simp [World.setRow, Array.getElem?_modify, hh]
        · simp [List.length_take] at hfit ⊢; omega
        · have e1 : (P ++ [q]).length * i.size = P.length * i.size + i.size := by simp [Nat.add_mul]
          rw [e1, htk, List.append_assoc, List.take_append, List.take_of_length_le (by rw [hs.len]; omega), hs.len, Nat.add_sub_cancel_left, List.take_append, List.take_of_length_le (by rw [hl]; omega), hl]
          simp
      · refine ⟨rfl, rfl, rfl, by simp [World.setRow], fun k _ hk => ?_⟩
        simp only [World.setRow, Array.getElem?_modify]
        rw [if_neg (fun h => hk (by rw [h]))]
    · obtain ⟨v', w', hr, ho, hg⟩ := run_append_arg_grows (P := Pg) w t ty e i z size bytes ht hi hz hsize hby hzs hsz ⟨g, 0, none⟩ P.length c xs hs.len
        (fun j y hj => by rw [Addr.add_lit, Nat.zero_add]; exact hs.cell rfl hj) ⟨kq, 0, none⟩ 1 cap1 u.cells.toList hl hnews (by omega) h63 hbytes
      obtain ⟨g', c', rfl, hS, hge, hM⟩ := own v' w' ho hg
      exact ⟨g', c', w', hr, hS, Or.inr ⟨hge, hM⟩⟩
theorem wpList_append_o (w : World) {ops : Array Oper} {rest : List Oper} {o : Oper} {a : Act} {K : Exit → Act → World → Prop}
    (hg : o.guard = none) (s x : Operand) (t : TypeId) (hop : o.op = Op.call { callee := Callee.builtin Builtin.append, args := #[s, x], argTypes := #[t, t] })
    (e : TypeId) (i : TypeInfo) (z : Value) (size bytes : Nat) (ht : Pg.underlying t = some (.slice e)) (hi : Pg.info? e = some i) (hz : i.zero = some z)
    (hsize : i.size = size) (hby : i.bytes = bytes) (hzs : z.cells.size = size) (hsz : 0 < size) (og : Option Nat) (c : Nat) (P : List α) (L : Nat) (hL : P.length = L) (hsv : a.eval s = sv og L c) (hO : OwnS w e size og c V P)
    (kq cap1 : Nat) (hxv : a.eval x = .slice (some ⟨kq, 0, none⟩) 1 cap1) (q : α) (u : Value) (hu : V u q) (hcs : u.cells.size = size) (hcells : ∀ j y, u.cells[j]? = some y → w.cell? ⟨kq, j, none⟩ = some y) (h1 : ∀ y ∈ u.cells, y.oneCell' = true)
    (h63 : L + 1 ≤ maxLen) (hbytes : (L + 1) * bytes ≤ 140737488355328)
    (hK : ∀ g' c' w', OwnS w' e size (some g') c' V (P ++ [q]) → ((some g' = og ∧ L + 1 ≤ c ∧ Mod (fun k => some k = og) w w') ∨ (w.heap.size ≤ g' ∧ Mod (fun _ => False) w w')) → wpList Pg ops K rest (a.put o.dst (sv (some g') (L + 1) c')) w') :
    wpList Pg ops K (o :: rest) a w := by
  subst hL
  refine wpList_plain hg fun K hK' => ?_
  obtain ⟨g', c', w', hrun, r1, r2⟩ := run_append_o (Pg := Pg) w t o.type e i z size bytes ht hi hz hsize hby hzs hsz og c P hO kq cap1 q u hu hcs hcells h1 h63 hbytes
  unfold Oper.wp
  simp [execOp, hop, resolve, invoke, builtin, hsv, hxv, hrun, Result.andThen]
  exact hK' _ _ (hK g' c' w' r1 r2)
theorem step_append_o {ops : Array Oper} {o : Oper} {a : Act} {w : World} {K : Act → World → Prop} {Q' : Exit → Act → World → Prop} {E : Prop}
    (hg : o.guard = none) (s x : Operand) (t : TypeId) (hop : o.op = Op.call { callee := Callee.builtin Builtin.append, args := #[s, x], argTypes := #[t, t] })
    (e : TypeId) (i : TypeInfo) (z : Value) (size bytes : Nat) (ht : Pg.underlying t = some (.slice e)) (hi : Pg.info? e = some i) (hz : i.zero = some z)
    (hsize : i.size = size) (hby : i.bytes = bytes) (hzs : z.cells.size = size) (hsz : 0 < size) (og : Option Nat) (c : Nat) (P : List α) (L : Nat) (hL : P.length = L) (hsv : a.eval s = sv og L c) (hO : OwnS w e size og c V P)
    (kq cap1 : Nat) (hxv : a.eval x = .slice (some ⟨kq, 0, none⟩) 1 cap1) (q : α) (u : Value) (hu : V u q) (hcs : u.cells.size = size) (hcells : ∀ j y, u.cells[j]? = some y → w.cell? ⟨kq, j, none⟩ = some y) (h1 : ∀ y ∈ u.cells, y.oneCell' = true)
    (h63 : L + 1 ≤ maxLen) (hbytes : (L + 1) * bytes ≤ 140737488355328)
    (hK : ∀ g' c' w', OwnS w' e size (some g') c' V (P ++ [q]) → ((some g' = og ∧ L + 1 ≤ c ∧ Mod (fun k => some k = og) w w') ∨ (w.heap.size ≤ g' ∧ Mod (fun _ => False) w w')) → K (a.put o.dst (sv (some g') (L + 1) c')) w') :
    if Region.wanted o (yielded ops a.tmps) = true then Oper.wp Pg o a w K Q' else E := by
  have hw : Region.wanted o (yielded ops a.tmps) = true := by simp [Region.wanted, hg]
  rw [if_pos hw]
  subst hL
  obtain ⟨g', c', w', hrun, r1, r2⟩ := run_append_o (Pg := Pg) w t o.type e i z size bytes ht hi hz hsize hby hzs hsz og c P hO kq cap1 q u hu hcs hcells h1 h63 hbytes
  unfold Oper.wp
  simp [execOp, hop, resolve, invoke, builtin, hsv, hxv, hrun, Result.andThen]
  exact hK g' c' w' r1 r2
end
end
end Go.Proofs.YtpodeccpibnlbaaGreatDoor
