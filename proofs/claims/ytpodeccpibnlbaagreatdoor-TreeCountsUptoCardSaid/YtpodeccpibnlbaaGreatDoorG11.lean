/- A fresh row whose elements are put one by one. No program in sight. slices.Clone at flat types. slices.Clone at the others. -/
import Derived.Test.YtpodeccpibnlbaaGreatDoorG04
import Derived.Laws.IdiomCopy
namespace Go.Proofs.YtpodeccpibnlbaaGreatDoor
set_option linter.unusedVariables false
set_option linter.unusedSimpArgs false
open Go.RowKit

theorem Mod.of_below {w w' : World} (h : Below w.heap.size w w') : Mod (fun _ => False) w w' := ⟨h.os, h.tape, h.output, h.size, fun k hk _ => h.block k hk⟩

/-- Values put side by side into an array. -/
def putA (cur : Array Value) : Nat → List Value → Array Value
  | _, [] => cur
  | o, v :: r => putA (cur.setIfInBounds o v) (o + 1) r
theorem size_putA : ∀ (vs : List Value) (cur : Array Value) (o : Nat), (putA cur o vs).size = cur.size
  | [], _, _ => rfl
  | v :: r, cur, o => by rw [putA, size_putA r]; simp
theorem putA_out : ∀ (vs : List Value) (cur : Array Value) (o j : Nat), j < o ∨ o + vs.length ≤ j → (putA cur o vs)[j]? = cur[j]?
  | [], _, _, _, _ => rfl
  | v :: r, cur, o, j, h => by
    simp only [List.length_cons] at h
    rw [putA, putA_out r _ _ _ (by omega), Array.getElem?_setIfInBounds_ne (by omega)]
theorem putA_in : ∀ (vs : List Value) (cur : Array Value) (o k : Nat) (u : Value), o + vs.length ≤ cur.size → vs[k]? = some u → (putA cur o vs)[o + k]? = some u
  | [], _, _, _, _, _, h => by simp at h
  | v :: r, cur, o, 0, u, hs, h => by
    simp at h
    subst h
    simp only [List.length_cons] at hs
    rw [putA, putA_out r _ _ _ (by omega), Nat.add_zero, Array.getElem?_setIfInBounds_self_of_lt (by omega)]
  | v :: r, cur, o, k + 1, u, hs, h => by
    simp only [List.length_cons] at hs
    rw [putA, show o + (k + 1) = (o + 1) + k by omega]
    exact putA_in r _ _ k u (by simp; omega) (by simpa using h)
theorem heap_setCells {g : Nat} {e : TypeId} : ∀ (vs : List Value) (o : Nat) (w : World) (cur : Array Value), w.heap[g]? = some (.cells cur e (0, 0)) → (w.setCells g o vs).heap[g]? = some (.cells (putA cur o vs) e (0, 0))
  | [], _, _, _, h => h
  | v :: r, o, w, cur, h => by
    rw [World.setCells, putA]
    exact heap_setCells r (o + 1) _ _ (by simp [World.setCell, Array.getElem?_modify, h])
theorem Mod.setCells {S : Nat → Prop} {g : Nat} (hS : S g) : ∀ (vs : List Value) (o : Nat) (w : World), Mod S w (w.setCells g o vs)
  | [], _, w => Mod.refl _ _
  | v :: r, o, w => by
    rw [World.setCells]
    exact (Mod.setCell w ⟨g, o, none⟩ v hS).trans (Mod.setCells hS r (o + 1) _) (fun _ h => Or.inl h)

section
variable {α : Type}
theorem Nb.kp {B : Nat} {w w' : World} (h : Mod (fun _ => False) w w') : Kp (Nb B w) w (Nb B w') w' := fun b hb hl =>
  have e := h.block b hl (fun h => h)
  ⟨⟨hb.1, hb.2.elim fun cur hc => hc.elim fun t ht => ⟨cur, t, e.trans ht⟩⟩, Nat.lt_of_lt_of_le hl h.size, e⟩
theorem Nb.le {B C : Nat} (h : C ≤ B) {w : World} : Kp (Nb B w) w (Nb C w) w := fun b hb hl => ⟨⟨Nat.le_trans h hb.1, hb.2⟩, hl, rfl⟩
/-- The row at block g: from k on its elements are as they came (V), before k they are new ones (VT), which lie in blocks from B on. -/
structure Half (w : World) (g n : Nat) (e : TypeId) (cur : Array Value) (l : List α) (k B : Nat) (V : Value → α → Prop) (VT : (Nat → Prop) → World → Value → α → Prop) : Prop where
  blk : w.heap[g]? = some (.cells cur e (0, 0))
  lt : g < B
  room : l.length * n ≤ cur.size
  old : ∀ i x, k ≤ i → l[i]? = some x → ∃ v, V v x ∧ ∀ j u, v.cells[j]? = some u → cur[i * n + j]? = some u
  new : ∀ i x, i < k → l[i]? = some x → ∃ v, VT (Nb B w) w v x ∧ ∀ j u, v.cells[j]? = some u → cur[i * n + j]? = some u

theorem Half.frozen {w : World} {g n : Nat} {e : TypeId} {cur : Array Value} {l : List α} {k B : Nat} {V : Value → α → Prop} {VT : (Nat → Prop) → World → Value → α → Prop} (h : Half w g n e cur l k B V VT) (j : Nat) :
    w.frozen? ⟨g, j, none⟩ = false := by simp [World.frozen?, h.blk]
theorem Half.cell {w : World} {g n : Nat} {e : TypeId} {cur : Array Value} {l : List α} {k B : Nat} {V : Value → α → Prop} {VT : (Nat → Prop) → World → Value → α → Prop} (h : Half w g n e cur l k B V VT) {j : Nat} {u : Value} (hj : cur[j]? = some u) :
    w.cell? ⟨g, j, none⟩ = some u := by simp [World.cell?, h.blk, hj]
theorem Half.keep {w w' : World} {g n : Nat} {e : TypeId} {cur : Array Value} {l : List α} {k B : Nat} {V : Value → α → Prop} {VT : (Nat → Prop) → World → Value → α → Prop} (h : Half w g n e cur l k B V VT)
    (hm : Mod (fun _ => False) w w') (hk : ∀ S w S' w' v x, VT S w v x → Kp S w S' w' → VT S' w' v x) : Half w' g n e cur l k B V VT :=
  ⟨(hm.block g (Array.getElem?_eq_some_iff.1 h.blk).1 (fun h => h)).trans h.blk, h.lt, h.room, h.old, fun i x hi hx => by
    obtain ⟨v, h1, h2⟩ := h.new i x hi hx
    exact ⟨v, hk _ _ _ _ _ _ h1 (Nb.kp hm), h2⟩⟩
theorem Half.put {w : World} {g n : Nat} {e : TypeId} {cur : Array Value} {l : List α} {k B : Nat} {V : Value → α → Prop} {VT : (Nat → Prop) → World → Value → α → Prop} (h : Half w g n e cur l k B V VT)
    (hk : ∀ S w S' w' v x, VT S w v x → Kp S w S' w' → VT S' w' v x) (hnn : ∀ S w v x, VT S w v x → v.cells.size = n) {x : α} (hx : l[k]? = some x) {v : Value} (hv : VT (Nb B w) w v x) :
    Half (w.setCells g (k * n) v.cells.toList) g n e (putA cur (k * n) v.cells.toList) l (k + 1) B V VT := by
  have hkl : k < l.length := (List.getElem?_eq_some_iff.1 hx).1
  have hroom := h.room
  have h1 : (k + 1) * n ≤ l.length * n := Nat.mul_le_mul_right _ hkl
  rw [Nat.add_mul, Nat.one_mul] at h1
  have hn := hnn _ _ _ _ hv
  have hlen : v.cells.toList.length = n := by simpa using hn
  have hkp : Kp (Nb B w) w (Nb B (w.setCells g (k * n) v.cells.toList)) (w.setCells g (k * n) v.cells.toList) := fun b hb hl => by
    have hm : Mod (fun b => b = g) w (w.setCells g (k * n) v.cells.toList) := Mod.setCells (S := fun b => b = g) rfl _ _ _
    obtain ⟨hb1, cur, t, hb2⟩ := hb
    have e := hm.block b hl (fun e => by have := h.lt; omega)
    exact ⟨⟨hb1, cur, t, e.trans hb2⟩, Nat.lt_of_lt_of_le hl hm.size, e⟩
  refine ⟨heap_setCells _ _ _ _ h.blk, h.lt, by rw [size_putA]; exact hroom, fun i y hi hy => ?_, fun i y hi hy => ?_⟩
  · obtain ⟨u, m1, m2⟩ := h.old i y (by omega) hy
    refine ⟨u, m1, fun j z hz => ?_⟩
    rw [putA_out _ _ _ _ (Or.inr (by
      have := Nat.mul_le_mul_right n hi
      rw [Nat.add_mul, Nat.one_mul] at this
      omega))]
    exact m2 j z hz
  · by_cases hik : i = k
    · subst hik
      rw [hx] at hy
      cases hy
      refine ⟨v, hk _ _ _ _ _ _ hv hkp, fun j z hz => ?_⟩
      exact putA_in _ _ _ _ _ (by omega) (by simpa using hz)
    · obtain ⟨u, m1, m2⟩ := h.new i y (by omega) hy
      refine ⟨u, hk _ _ _ _ _ _ m1 hkp, fun j z hz => ?_⟩
      have hj : cur[i * n + j]? = some z := m2 j z hz
      have h3 : j < n := by
        have := (Array.getElem?_eq_some_iff.1 hz).1
        rwa [hnn _ _ _ _ m1] at this
      have h4 := Nat.mul_le_mul_right n (show i + 1 ≤ k by omega)
      rw [Nat.add_mul, Nat.one_mul] at h4
      rw [putA_out _ _ _ _ (Or.inl (by omega))]
      exact hj
theorem Half.row {w w0 : World} {g n : Nat} {e : TypeId} {cur : Array Value} {l : List α} {B cap : Nat} {V : Value → α → Prop} {VT : (Nat → Prop) → World → Value → α → Prop} (h : Half w g n e cur l l.length B V VT)
    (hk : ∀ S w S' w' v x, VT S w v x → Kp S w S' w' → VT S' w' v x) (hB : w0.heap.size ≤ B) (hg : w0.heap.size ≤ g) (hb : l.length ≤ 1048576) (hc : l.length ≤ cap) (hm : cap ≤ maxLen) :
    SR (Nb w0.heap.size w) w n (VT (Nb w0.heap.size w) w) (some ⟨g, 0, none⟩) l.length cap l :=
  ⟨rfl, hb, hc, hm, fun i x hx => by
    obtain ⟨v, h1, h2⟩ := h.new i x (List.getElem?_eq_some_iff.1 hx).1 hx
    refine ⟨g, 0, v, rfl, ⟨hg, cur, e, h.blk⟩, (Array.getElem?_eq_some_iff.1 h.blk).1, fun k u hu => ?_, hk _ _ _ _ _ _ h1 (Nb.le hB)⟩
    rw [Nat.zero_add]
    exact h.cell (h2 k u hu)⟩
/-- As Half.row; and what lies behind the elements lies in other blocks than the row. -/
theorem Half.row2 {w w0 : World} {g n : Nat} {e : TypeId} {cur : Array Value} {l : List α} {B cap : Nat} {V : Value → α → Prop} {VT : (Nat → Prop) → World → Value → α → Prop} (h : Half w g n e cur l l.length B V VT)
    (hk : ∀ S w S' w' v x, VT S w v x → Kp S w S' w' → VT S' w' v x) (hB : w0.heap.size ≤ B) (hg : w0.heap.size ≤ g) (hb : l.length ≤ 1048576) (hc : l.length ≤ cap) (hm : cap ≤ maxLen) :
    SR (Nb w0.heap.size w) w n (VT (fun b => Nb w0.heap.size w b ∧ some (⟨g, 0, none⟩ : Addr) ≠ some ⟨b, 0, none⟩) w) (some ⟨g, 0, none⟩) l.length cap l :=
  ⟨rfl, hb, hc, hm, fun i x hx => by
    obtain ⟨v, h1, h2⟩ := h.new i x (List.getElem?_eq_some_iff.1 hx).1 hx
    refine ⟨g, 0, v, rfl, ⟨hg, cur, e, h.blk⟩, (Array.getElem?_eq_some_iff.1 h.blk).1, fun k u hu => ?_, hk _ _ _ _ _ _ h1 (fun b hb hl => ⟨⟨⟨Nat.le_trans hB hb.1, hb.2⟩, fun e => by simp only [Option.some.injEq, Addr.mk.injEq, and_true] at e; have := h.lt; have := hb.1; omega⟩, hl, rfl⟩)⟩
    rw [Nat.zero_add]
    exact h.cell (h2 k u hu)⟩
theorem Half.start {w w1 : World} {n : Nat} {e : TypeId} {l : List α} {V : Value → α → Prop} (VT : (Nat → Prop) → World → Value → α → Prop) {oa : Option Addr} {cap g : Nat} {cur : Array Value}
    (h : SR (Nb w.heap.size w1) w1 n V oa l.length cap l) (hoa : oa = some ⟨g, 0, none⟩) (hb : w1.heap[g]? = some (.cells cur e (0, 0))) (hr : l.length * n ≤ cur.size) :
    Half w1 g n e cur l 0 w1.heap.size V VT :=
  ⟨hb, (Array.getElem?_eq_some_iff.1 hb).1, hr, fun i x _ hx => by
    obtain ⟨b, o, v, h1, h2, h3, h4, h5⟩ := h.at' i x hx
    rw [hoa] at h1
    simp only [Option.some.injEq, Addr.mk.injEq] at h1
    obtain ⟨rfl, rfl, _⟩ := h1
    refine ⟨v, h5, fun j u hu => ?_⟩
    have := h4 j u hu
    rw [Nat.zero_add] at this
    simpa [World.cell?, hb] using this, fun i x hi => by omega⟩
end
end Go.Proofs.YtpodeccpibnlbaaGreatDoor
namespace Go.Proofs.YtpodeccpibnlbaaGreatDoor
set_option linter.unusedVariables false
set_option linter.unusedSimpArgs false
open Go.RowKit
section
variable {S : Nat → Prop} {w0 wV : World} {oa : Option Addr} {len cap : Nat}

theorem info_9 : (Tryz.prog.info? 9).map (fun i => (i.zero, i.size, i.bytes)) = some (some (.string { data := #[] }), 1, 16) := by kernel_rfl
theorem one_str {v : Value} {x : ByteArray} (hv : strV v x) : v.cells.size = 1 ∧ ∀ u ∈ v.cells, u.oneCell' = true := by
  obtain ⟨rfl, k0⟩ := hv
  simp [Value.cells, Value.oneCell']

set_option maxRecDepth 100000 in
set_option maxHeartbeats 2000000 in
theorem cln_str {l : List ByteArray} (h : SR S w0 1 (strV) oa len cap l) (w : World) (hw : Mod (fun _ => False) w0 w) :
    Calls Tryz.prog 36 #[.slice oa len cap] w fun e w' => ∃ oa' cap', e = .returned (.slice oa' l.length cap') ∧ Mod (fun _ => False) w w' ∧ SR (Nb w.heap.size w') w' 1 (strV) oa' l.length cap' l ∧
      (oa' = none ∧ l = [] ∧ cap' = 0 ∨ ∃ g cur, oa' = some ⟨g, 0, none⟩ ∧ w.heap.size ≤ g ∧ w'.heap[g]? = some (.cells cur 9 (0, 0)) ∧ l.length * 1 ≤ cur.size ∧ cap' * 1 = cur.size) := by
  have hk := h.keep (hw.kp S) (fun _ _ h => h)
  have hbig := hk.hbig
  have hlen := hk.hlen
  subst hlen
  cases oa with
  | none =>
    have hl : l = [] := hk.nil_of rfl
    subst hl
    clear h hk
    have hnil := fun (w : World) (a : Option Addr) (n c : Nat) => Lib.run_eql_slice_nil (P := Tryz.prog) w 22 9 a n c 0 0 Tryz.underlying22
    go_enter Tryz.func36, Tryz.ntmps36
    go_wp2
    go_ret
    exact ⟨none, 0, rfl, Mod.refl _ _, ⟨rfl, by simp, by simp, by simp [maxLen], fun i x hi => by simp at hi⟩, by simp⟩
  | some a =>
    obtain ⟨news, n1, n2, n3, n4⟩ := hk.newsA (fun v x hv => one_str hv)
    have H2 : Hd _ := ⟨n2⟩
    have H3 : Hd _ := ⟨n3⟩
    have H4 : Hd _ := ⟨n4⟩
    clear h hk n2 n3 n4
    obtain ⟨i0, hi, hz0, hz1, hz2⟩ := info_parts info_9
    have ht := Tryz.underlying22
    have hnil := fun (w : World) (a : Option Addr) (n c : Nat) => Lib.run_eql_slice_nil (P := Tryz.prog) w 22 9 a n c 0 0 ht
    go_enter Tryz.func36, Tryz.ntmps36
    go_wp2_with (at_builtin; refine wpList_append_own _ rfl _ _ 22 rfl w.heap.size 9 i0 (.string { data := #[] }) 1 16 ht hi hz0 hz1 hz2 (by simp [Value.cells]) (by decide) _ _ _ rfl (World.ownsRow_made w #[] 0 (Nat.le_refl _) (Nat.zero_le _) (by simp)) a l.length cap news rfl ?qc1 ?qc2 ?qc3 ?qc4 ?qc5 ?qc6 ?_)
    case qc1 => exact n1
    case qc2 => intro j u hj; exact Lib.cell?_alloc_some _ (H2.out j u hj)
    case qc3 => exact H3.out
    case qc4 => unfold maxLen; omega
    case qc5 => omega
    case qc6 => simp
    intro v' w1 hown hgrow hnil
    go_wp2
    go_ret
    have hB : Below w.heap.size w w1 := ((Below.refl _ w).alloc (Nat.le_refl _) _).grown hgrow (by simp) (by intro k hk; simp [Value.ownBlock] at hk; omega)
    obtain ⟨oa', cap', rfl, hS, hO⟩ := SR.of_ownsN (l := l) (news := news) (by simpa using hown) hbig H4.out (.inl hnil)
    exact ⟨oa', cap', rfl, .of_below hB, hS, hO⟩

theorem info_52 : (Tryz.prog.info? 52).map (fun i => (i.zero, i.size, i.bytes)) = some (some (.agg #[.string { data := #[] }, .string { data := #[] }]), 2, 32) := by kernel_rfl
theorem one_vr {v : Value} {x : Vr} (hv : vrV v x) : v.cells.size = 2 ∧ ∀ u ∈ v.cells, u.oneCell' = true := by
  obtain ⟨rfl, k0⟩ := hv
  simp [Value.cells, Value.oneCell']

set_option maxRecDepth 100000 in
set_option maxHeartbeats 2000000 in
theorem cln_vr {l : List Vr} (h : SR S w0 2 (vrV) oa len cap l) (w : World) (hw : Mod (fun _ => False) w0 w) :
    Calls Tryz.prog 70 #[.slice oa len cap] w fun e w' => ∃ oa' cap', e = .returned (.slice oa' l.length cap') ∧ Mod (fun _ => False) w w' ∧ SR (Nb w.heap.size w') w' 2 (vrV) oa' l.length cap' l ∧
      (oa' = none ∧ l = [] ∧ cap' = 0 ∨ ∃ g cur, oa' = some ⟨g, 0, none⟩ ∧ w.heap.size ≤ g ∧ w'.heap[g]? = some (.cells cur 52 (0, 0)) ∧ l.length * 2 ≤ cur.size ∧ cap' * 2 = cur.size) := by
  have hk := h.keep (hw.kp S) (fun _ _ h => h)
  have hbig := hk.hbig
  have hlen := hk.hlen
  subst hlen
  cases oa with
  | none =>
    have hl : l = [] := hk.nil_of rfl
    subst hl
    clear h hk
    have hnil := fun (w : World) (a : Option Addr) (n c : Nat) => Lib.run_eql_slice_nil (P := Tryz.prog) w 42 52 a n c 0 0 Tryz.underlying42
    go_enter Tryz.func70, Tryz.ntmps70
    go_wp2
    go_ret
    exact ⟨none, 0, rfl, Mod.refl _ _, ⟨rfl, by simp, by simp, by simp [maxLen], fun i x hi => by simp at hi⟩, by simp⟩
  | some a =>
    obtain ⟨news, n1, n2, n3, n4⟩ := hk.newsA (fun v x hv => one_vr hv)
    have H2 : Hd _ := ⟨n2⟩
    have H3 : Hd _ := ⟨n3⟩
    have H4 : Hd _ := ⟨n4⟩
    clear h hk n2 n3 n4
    obtain ⟨i0, hi, hz0, hz1, hz2⟩ := info_parts info_52
    have ht := Tryz.underlying42
    have hnil := fun (w : World) (a : Option Addr) (n c : Nat) => Lib.run_eql_slice_nil (P := Tryz.prog) w 42 52 a n c 0 0 ht
    go_enter Tryz.func70, Tryz.ntmps70
    go_wp2_with (at_builtin; refine wpList_append_own _ rfl _ _ 42 rfl w.heap.size 52 i0 (.agg #[.string { data := #[] }, .string { data := #[] }]) 2 32 ht hi hz0 hz1 hz2 (by simp [Value.cells]) (by decide) _ _ _ rfl (World.ownsRow_made w #[] 0 (Nat.le_refl _) (Nat.zero_le _) (by simp)) a l.length cap news rfl ?qc1 ?qc2 ?qc3 ?qc4 ?qc5 ?qc6 ?_)
    case qc1 => exact n1
    case qc2 => intro j u hj; exact Lib.cell?_alloc_some _ (H2.out j u hj)
    case qc3 => exact H3.out
    case qc4 => unfold maxLen; omega
    case qc5 => omega
    case qc6 => simp
    intro v' w1 hown hgrow hnil
    go_wp2
    go_ret
    have hB : Below w.heap.size w w1 := ((Below.refl _ w).alloc (Nat.le_refl _) _).grown hgrow (by simp) (by intro k hk; simp [Value.ownBlock] at hk; omega)
    obtain ⟨oa', cap', rfl, hS, hO⟩ := SR.of_ownsN (l := l) (news := news) (by simpa using hown) hbig H4.out (.inl hnil)
    exact ⟨oa', cap', rfl, .of_below hB, hS, hO⟩

theorem info_94 : (Tryz.prog.info? 94).map (fun i => (i.zero, i.size, i.bytes)) = some (some (.agg #[.string { data := #[] }, .string { data := #[] }, .string { data := #[] }]), 3, 48) := by kernel_rfl
theorem one_arm {v : Value} {x : Arm} (hv : armV v x) : v.cells.size = 3 ∧ ∀ u ∈ v.cells, u.oneCell' = true := by
  obtain ⟨rfl, k0⟩ := hv
  simp [Value.cells, Value.oneCell']

set_option maxRecDepth 100000 in
set_option maxHeartbeats 2000000 in
theorem cln_arm {l : List Arm} (h : SR S w0 3 (armV) oa len cap l) (w : World) (hw : Mod (fun _ => False) w0 w) :
    Calls Tryz.prog 125 #[.slice oa len cap] w fun e w' => ∃ oa' cap', e = .returned (.slice oa' l.length cap') ∧ Mod (fun _ => False) w w' ∧ SR (Nb w.heap.size w') w' 3 (armV) oa' l.length cap' l ∧
      (oa' = none ∧ l = [] ∧ cap' = 0 ∨ ∃ g cur, oa' = some ⟨g, 0, none⟩ ∧ w.heap.size ≤ g ∧ w'.heap[g]? = some (.cells cur 94 (0, 0)) ∧ l.length * 3 ≤ cur.size ∧ cap' * 3 = cur.size) := by
  have hk := h.keep (hw.kp S) (fun _ _ h => h)
  have hbig := hk.hbig
  have hlen := hk.hlen
  subst hlen
  cases oa with
  | none =>
    have hl : l = [] := hk.nil_of rfl
    subst hl
    clear h hk
    have hnil := fun (w : World) (a : Option Addr) (n c : Nat) => Lib.run_eql_slice_nil (P := Tryz.prog) w 59 94 a n c 0 0 Tryz.underlying59
    go_enter Tryz.func125, Tryz.ntmps125
    go_wp2
    go_ret
    exact ⟨none, 0, rfl, Mod.refl _ _, ⟨rfl, by simp, by simp, by simp [maxLen], fun i x hi => by simp at hi⟩, by simp⟩
  | some a =>
    obtain ⟨news, n1, n2, n3, n4⟩ := hk.newsA (fun v x hv => one_arm hv)
    have H2 : Hd _ := ⟨n2⟩
    have H3 : Hd _ := ⟨n3⟩
    have H4 : Hd _ := ⟨n4⟩
    clear h hk n2 n3 n4
    obtain ⟨i0, hi, hz0, hz1, hz2⟩ := info_parts info_94
    have ht := Tryz.underlying59
    have hnil := fun (w : World) (a : Option Addr) (n c : Nat) => Lib.run_eql_slice_nil (P := Tryz.prog) w 59 94 a n c 0 0 ht
    go_enter Tryz.func125, Tryz.ntmps125
    go_wp2_with (at_builtin; refine wpList_append_own _ rfl _ _ 59 rfl w.heap.size 94 i0 (.agg #[.string { data := #[] }, .string { data := #[] }, .string { data := #[] }]) 3 48 ht hi hz0 hz1 hz2 (by simp [Value.cells]) (by decide) _ _ _ rfl (World.ownsRow_made w #[] 0 (Nat.le_refl _) (Nat.zero_le _) (by simp)) a l.length cap news rfl ?qc1 ?qc2 ?qc3 ?qc4 ?qc5 ?qc6 ?_)
    case qc1 => exact n1
    case qc2 => intro j u hj; exact Lib.cell?_alloc_some _ (H2.out j u hj)
    case qc3 => exact H3.out
    case qc4 => unfold maxLen; omega
    case qc5 => omega
    case qc6 => simp
    intro v' w1 hown hgrow hnil
    go_wp2
    go_ret
    have hB : Below w.heap.size w w1 := ((Below.refl _ w).alloc (Nat.le_refl _) _).grown hgrow (by simp) (by intro k hk; simp [Value.ownBlock] at hk; omega)
    obtain ⟨oa', cap', rfl, hS, hO⟩ := SR.of_ownsN (l := l) (news := news) (by simpa using hown) hbig H4.out (.inl hnil)
    exact ⟨oa', cap', rfl, .of_below hB, hS, hO⟩
end
end Go.Proofs.YtpodeccpibnlbaaGreatDoor
namespace Go.Proofs.YtpodeccpibnlbaaGreatDoor
set_option linter.unusedVariables false
set_option linter.unusedSimpArgs false
open Go.RowKit
section
variable {S : Nat → Prop} {w0 wV : World} {oa : Option Addr} {len cap : Nat}

theorem info_24 : (Tryz.prog.info? 24).map (fun i => (i.zero, i.size, i.bytes)) = some (some (.agg #[.string { data := #[] }, .slice none 0 0]), 2, 40) := by kernel_rfl
theorem one_pl {S : Nat → Prop} {wV : World} {v : Value} {x : Pl} (hv : plV S wV v x) : v.cells.size = 2 ∧ ∀ u ∈ v.cells, u.oneCell' = true := by
  obtain ⟨k0, oa1, la1, ca1, rfl, k1⟩ := hv
  simp [Value.cells, Value.oneCell']

set_option maxRecDepth 100000 in
set_option maxHeartbeats 2000000 in
theorem cln_pl {l : List Pl} (h : SR S w0 2 (plV S wV) oa len cap l) (w : World) (hw : Mod (fun _ => False) w0 w) :
    Calls Tryz.prog 126 #[.slice oa len cap] w fun e w' => ∃ oa' cap', e = .returned (.slice oa' l.length cap') ∧ Mod (fun _ => False) w w' ∧ SR (Nb w.heap.size w') w' 2 (plV S wV) oa' l.length cap' l ∧
      (oa' = none ∧ l = [] ∧ cap' = 0 ∨ ∃ g cur, oa' = some ⟨g, 0, none⟩ ∧ w.heap.size ≤ g ∧ w'.heap[g]? = some (.cells cur 24 (0, 0)) ∧ l.length * 2 ≤ cur.size ∧ cap' * 2 = cur.size) := by
  have hk := h.keep (hw.kp S) (fun _ _ h => h)
  have hbig := hk.hbig
  have hlen := hk.hlen
  subst hlen
  cases oa with
  | none =>
    have hl : l = [] := hk.nil_of rfl
    subst hl
    clear h hk
    have hnil := fun (w : World) (a : Option Addr) (n c : Nat) => Lib.run_eql_slice_nil (P := Tryz.prog) w 46 24 a n c 0 0 Tryz.underlying46
    go_enter Tryz.func126, Tryz.ntmps126
    go_wp2
    go_ret
    exact ⟨none, 0, rfl, Mod.refl _ _, ⟨rfl, by simp, by simp, by simp [maxLen], fun i x hi => by simp at hi⟩, by simp⟩
  | some a =>
    obtain ⟨news, n1, n2, n3, n4⟩ := hk.newsA (fun v x hv => one_pl hv)
    have H2 : Hd _ := ⟨n2⟩
    have H3 : Hd _ := ⟨n3⟩
    have H4 : Hd _ := ⟨n4⟩
    clear h hk n2 n3 n4
    obtain ⟨i0, hi, hz0, hz1, hz2⟩ := info_parts info_24
    have ht := Tryz.underlying46
    have hnil := fun (w : World) (a : Option Addr) (n c : Nat) => Lib.run_eql_slice_nil (P := Tryz.prog) w 46 24 a n c 0 0 ht
    go_enter Tryz.func126, Tryz.ntmps126
    go_wp2_with (at_builtin; refine wpList_append_own _ rfl _ _ 46 rfl w.heap.size 24 i0 (.agg #[.string { data := #[] }, .slice none 0 0]) 2 40 ht hi hz0 hz1 hz2 (by simp [Value.cells]) (by decide) _ _ _ rfl (World.ownsRow_made w #[] 0 (Nat.le_refl _) (Nat.zero_le _) (by simp)) a l.length cap news rfl ?qc1 ?qc2 ?qc3 ?qc4 ?qc5 ?qc6 ?_)
    case qc1 => exact n1
    case qc2 => intro j u hj; exact Lib.cell?_alloc_some _ (H2.out j u hj)
    case qc3 => exact H3.out
    case qc4 => unfold maxLen; omega
    case qc5 => omega
    case qc6 => simp
    intro v' w1 hown hgrow hnil
    go_wp2
    go_ret
    have hB : Below w.heap.size w w1 := ((Below.refl _ w).alloc (Nat.le_refl _) _).grown hgrow (by simp) (by intro k hk; simp [Value.ownBlock] at hk; omega)
    obtain ⟨oa', cap', rfl, hS, hO⟩ := SR.of_ownsN (l := l) (news := news) (by simpa using hown) hbig H4.out (.inl hnil)
    exact ⟨oa', cap', rfl, .of_below hB, hS, hO⟩

theorem info_68 : (Tryz.prog.info? 68).map (fun i => (i.zero, i.size, i.bytes)) = some (some (.agg #[.int .i64 0, .int .i64 0, .string { data := #[] }, .slice none 0 0, .int .i64 0, .string { data := #[] }, .string { data := #[] }, .slice none 0 0]), 8, 120) := by kernel_rfl
theorem one_stm {S : Nat → Prop} {wV : World} {v : Value} {x : Stm} (hv : stmV S wV v x) : v.cells.size = 8 ∧ ∀ u ∈ v.cells, u.oneCell' = true := by
  obtain ⟨k0, k1, k2, k3, k4, k5, oa1, la1, ca1, ob1, lb1, cb1, rfl, k6, k7⟩ := hv
  simp [Value.cells, Value.oneCell']

set_option maxRecDepth 100000 in
set_option maxHeartbeats 2000000 in
theorem cln_stm {l : List Stm} (h : SR S w0 8 (stmV S wV) oa len cap l) (w : World) (hw : Mod (fun _ => False) w0 w) :
    Calls Tryz.prog 158 #[.slice oa len cap] w fun e w' => ∃ oa' cap', e = .returned (.slice oa' l.length cap') ∧ Mod (fun _ => False) w w' ∧ SR (Nb w.heap.size w') w' 8 (stmV S wV) oa' l.length cap' l ∧
      (oa' = none ∧ l = [] ∧ cap' = 0 ∨ ∃ g cur, oa' = some ⟨g, 0, none⟩ ∧ w.heap.size ≤ g ∧ w'.heap[g]? = some (.cells cur 68 (0, 0)) ∧ l.length * 8 ≤ cur.size ∧ cap' * 8 = cur.size) := by
  have hk := h.keep (hw.kp S) (fun _ _ h => h)
  have hbig := hk.hbig
  have hlen := hk.hlen
  subst hlen
  cases oa with
  | none =>
    have hl : l = [] := hk.nil_of rfl
    subst hl
    clear h hk
    have hnil := fun (w : World) (a : Option Addr) (n c : Nat) => Lib.run_eql_slice_nil (P := Tryz.prog) w 62 68 a n c 0 0 Tryz.underlying62
    go_enter Tryz.func158, Tryz.ntmps158
    go_wp2
    go_ret
    exact ⟨none, 0, rfl, Mod.refl _ _, ⟨rfl, by simp, by simp, by simp [maxLen], fun i x hi => by simp at hi⟩, by simp⟩
  | some a =>
    obtain ⟨news, n1, n2, n3, n4⟩ := hk.newsA (fun v x hv => one_stm hv)
    have H2 : Hd _ := ⟨n2⟩
    have H3 : Hd _ := ⟨n3⟩
    have H4 : Hd _ := ⟨n4⟩
    clear h hk n2 n3 n4
    obtain ⟨i0, hi, hz0, hz1, hz2⟩ := info_parts info_68
    have ht := Tryz.underlying62
    have hnil := fun (w : World) (a : Option Addr) (n c : Nat) => Lib.run_eql_slice_nil (P := Tryz.prog) w 62 68 a n c 0 0 ht
    go_enter Tryz.func158, Tryz.ntmps158
    go_wp2_with (at_builtin; refine wpList_append_own _ rfl _ _ 62 rfl w.heap.size 68 i0 (.agg #[.int .i64 0, .int .i64 0, .string { data := #[] }, .slice none 0 0, .int .i64 0, .string { data := #[] }, .string { data := #[] }, .slice none 0 0]) 8 120 ht hi hz0 hz1 hz2 (by simp [Value.cells]) (by decide) _ _ _ rfl (World.ownsRow_made w #[] 0 (Nat.le_refl _) (Nat.zero_le _) (by simp)) a l.length cap news rfl ?qc1 ?qc2 ?qc3 ?qc4 ?qc5 ?qc6 ?_)
    case qc1 => exact n1
    case qc2 => intro j u hj; exact Lib.cell?_alloc_some _ (H2.out j u hj)
    case qc3 => exact H3.out
    case qc4 => unfold maxLen; omega
    case qc5 => omega
    case qc6 => simp
    intro v' w1 hown hgrow hnil
    go_wp2
    go_ret
    have hB : Below w.heap.size w w1 := ((Below.refl _ w).alloc (Nat.le_refl _) _).grown hgrow (by simp) (by intro k hk; simp [Value.ownBlock] at hk; omega)
    obtain ⟨oa', cap', rfl, hS, hO⟩ := SR.of_ownsN (l := l) (news := news) (by simpa using hown) hbig H4.out (.inl hnil)
    exact ⟨oa', cap', rfl, .of_below hB, hS, hO⟩

theorem info_64 : (Tryz.prog.info? 64).map (fun i => (i.zero, i.size, i.bytes)) = some (some (.agg #[.int .i64 0, .string { data := #[] }, .slice none 0 0, .int .i64 0, .int .i64 0, .string { data := #[] }, .slice none 0 0, .string { data := #[] }, .slice none 0 0, .slice none 0 0, .slice none 0 0]), 11, 192) := by kernel_rfl
theorem one_blk {S : Nat → Prop} {wV : World} {v : Value} {x : Blk} (hv : blkV S wV v x) : v.cells.size = 11 ∧ ∀ u ∈ v.cells, u.oneCell' = true := by
  obtain ⟨k0, k1, oa1, la1, ca1, ob1, lb1, cb1, oc1, lc1, cc1, od1, ld1, cd1, oe1, le1, ce1, rfl, k2⟩ := hv
  simp [Value.cells, Value.oneCell']

set_option maxRecDepth 100000 in
set_option maxHeartbeats 2000000 in
theorem cln_blk {l : List Blk} (h : SR S w0 11 (blkV S wV) oa len cap l) (w : World) (hw : Mod (fun _ => False) w0 w) :
    Calls Tryz.prog 120 #[.slice oa len cap] w fun e w' => ∃ oa' cap', e = .returned (.slice oa' l.length cap') ∧ Mod (fun _ => False) w w' ∧ SR (Nb w.heap.size w') w' 11 (blkV S wV) oa' l.length cap' l ∧
      (oa' = none ∧ l = [] ∧ cap' = 0 ∨ ∃ g cur, oa' = some ⟨g, 0, none⟩ ∧ w.heap.size ≤ g ∧ w'.heap[g]? = some (.cells cur 64 (0, 0)) ∧ l.length * 11 ≤ cur.size ∧ cap' * 11 = cur.size) := by
  have hk := h.keep (hw.kp S) (fun _ _ h => h)
  have hbig := hk.hbig
  have hlen := hk.hlen
  subst hlen
  cases oa with
  | none =>
    have hl : l = [] := hk.nil_of rfl
    subst hl
    clear h hk
    have hnil := fun (w : World) (a : Option Addr) (n c : Nat) => Lib.run_eql_slice_nil (P := Tryz.prog) w 43 64 a n c 0 0 Tryz.underlying43
    go_enter Tryz.func120, Tryz.ntmps120
    go_wp2
    go_ret
    exact ⟨none, 0, rfl, Mod.refl _ _, ⟨rfl, by simp, by simp, by simp [maxLen], fun i x hi => by simp at hi⟩, by simp⟩
  | some a =>
    obtain ⟨news, n1, n2, n3, n4⟩ := hk.newsA (fun v x hv => one_blk hv)
    have H2 : Hd _ := ⟨n2⟩
    have H3 : Hd _ := ⟨n3⟩
    have H4 : Hd _ := ⟨n4⟩
    clear h hk n2 n3 n4
    obtain ⟨i0, hi, hz0, hz1, hz2⟩ := info_parts info_64
    have ht := Tryz.underlying43
    have hnil := fun (w : World) (a : Option Addr) (n c : Nat) => Lib.run_eql_slice_nil (P := Tryz.prog) w 43 64 a n c 0 0 ht
    go_enter Tryz.func120, Tryz.ntmps120
    go_wp2_with (at_builtin; refine wpList_append_own _ rfl _ _ 43 rfl w.heap.size 64 i0 (.agg #[.int .i64 0, .string { data := #[] }, .slice none 0 0, .int .i64 0, .int .i64 0, .string { data := #[] }, .slice none 0 0, .string { data := #[] }, .slice none 0 0, .slice none 0 0, .slice none 0 0]) 11 192 ht hi hz0 hz1 hz2 (by simp [Value.cells]) (by decide) _ _ _ rfl (World.ownsRow_made w #[] 0 (Nat.le_refl _) (Nat.zero_le _) (by simp)) a l.length cap news rfl ?qc1 ?qc2 ?qc3 ?qc4 ?qc5 ?qc6 ?_)
    case qc1 => exact n1
    case qc2 => intro j u hj; exact Lib.cell?_alloc_some _ (H2.out j u hj)
    case qc3 => exact H3.out
    case qc4 => unfold maxLen; omega
    case qc5 => omega
    case qc6 => simp
    intro v' w1 hown hgrow hnil
    go_wp2
    go_ret
    have hB : Below w.heap.size w w1 := ((Below.refl _ w).alloc (Nat.le_refl _) _).grown hgrow (by simp) (by intro k hk; simp [Value.ownBlock] at hk; omega)
    obtain ⟨oa', cap', rfl, hS, hO⟩ := SR.of_ownsN (l := l) (news := news) (by simpa using hown) hbig H4.out (.inl hnil)
    exact ⟨oa', cap', rfl, .of_below hB, hS, hO⟩

theorem info_58 : (Tryz.prog.info? 58).map (fun i => (i.zero, i.size, i.bytes)) = some (some (.agg #[.int .i64 0, .string { data := #[] }, .bool false, .bool false, .slice none 0 0]), 5, 56) := by kernel_rfl
theorem one_sct {S : Nat → Prop} {wV : World} {v : Value} {x : Sct} (hv : sctV S wV v x) : v.cells.size = 5 ∧ ∀ u ∈ v.cells, u.oneCell' = true := by
  obtain ⟨k0, k1, oa1, la1, ca1, rfl, k2⟩ := hv
  simp [Value.cells, Value.oneCell']

set_option maxRecDepth 100000 in
set_option maxHeartbeats 2000000 in
theorem cln_sct {l : List Sct} (h : SR S w0 5 (sctV S wV) oa len cap l) (w : World) (hw : Mod (fun _ => False) w0 w) :
    Calls Tryz.prog 117 #[.slice oa len cap] w fun e w' => ∃ oa' cap', e = .returned (.slice oa' l.length cap') ∧ Mod (fun _ => False) w w' ∧ SR (Nb w.heap.size w') w' 5 (sctV S wV) oa' l.length cap' l ∧
      (oa' = none ∧ l = [] ∧ cap' = 0 ∨ ∃ g cur, oa' = some ⟨g, 0, none⟩ ∧ w.heap.size ≤ g ∧ w'.heap[g]? = some (.cells cur 58 (0, 0)) ∧ l.length * 5 ≤ cur.size ∧ cap' * 5 = cur.size) := by
  have hk := h.keep (hw.kp S) (fun _ _ h => h)
  have hbig := hk.hbig
  have hlen := hk.hlen
  subst hlen
  cases oa with
  | none =>
    have hl : l = [] := hk.nil_of rfl
    subst hl
    clear h hk
    have hnil := fun (w : World) (a : Option Addr) (n c : Nat) => Lib.run_eql_slice_nil (P := Tryz.prog) w 32 58 a n c 0 0 Tryz.underlying32
    go_enter Tryz.func117, Tryz.ntmps117
    go_wp2
    go_ret
    exact ⟨none, 0, rfl, Mod.refl _ _, ⟨rfl, by simp, by simp, by simp [maxLen], fun i x hi => by simp at hi⟩, by simp⟩
  | some a =>
    obtain ⟨news, n1, n2, n3, n4⟩ := hk.newsA (fun v x hv => one_sct hv)
    have H2 : Hd _ := ⟨n2⟩
    have H3 : Hd _ := ⟨n3⟩
    have H4 : Hd _ := ⟨n4⟩
    clear h hk n2 n3 n4
    obtain ⟨i0, hi, hz0, hz1, hz2⟩ := info_parts info_58
    have ht := Tryz.underlying32
    have hnil := fun (w : World) (a : Option Addr) (n c : Nat) => Lib.run_eql_slice_nil (P := Tryz.prog) w 32 58 a n c 0 0 ht
    go_enter Tryz.func117, Tryz.ntmps117
    go_wp2_with (at_builtin; refine wpList_append_own _ rfl _ _ 32 rfl w.heap.size 58 i0 (.agg #[.int .i64 0, .string { data := #[] }, .bool false, .bool false, .slice none 0 0]) 5 56 ht hi hz0 hz1 hz2 (by simp [Value.cells]) (by decide) _ _ _ rfl (World.ownsRow_made w #[] 0 (Nat.le_refl _) (Nat.zero_le _) (by simp)) a l.length cap news rfl ?qc1 ?qc2 ?qc3 ?qc4 ?qc5 ?qc6 ?_)
    case qc1 => exact n1
    case qc2 => intro j u hj; exact Lib.cell?_alloc_some _ (H2.out j u hj)
    case qc3 => exact H3.out
    case qc4 => unfold maxLen; omega
    case qc5 => omega
    case qc6 => simp
    intro v' w1 hown hgrow hnil
    go_wp2
    go_ret
    have hB : Below w.heap.size w w1 := ((Below.refl _ w).alloc (Nat.le_refl _) _).grown hgrow (by simp) (by intro k hk; simp [Value.ownBlock] at hk; omega)
    obtain ⟨oa', cap', rfl, hS, hO⟩ := SR.of_ownsN (l := l) (news := news) (by simpa using hown) hbig H4.out (.inl hnil)
    exact ⟨oa', cap', rfl, .of_below hB, hS, hO⟩

theorem info_70 : (Tryz.prog.info? 70).map (fun i => (i.zero, i.size, i.bytes)) = some (some (.agg #[.int .i64 0, .string { data := #[] }, .slice none 0 0]), 3, 48) := by kernel_rfl
theorem one_enm {S : Nat → Prop} {wV : World} {v : Value} {x : Enm} (hv : enmV S wV v x) : v.cells.size = 3 ∧ ∀ u ∈ v.cells, u.oneCell' = true := by
  obtain ⟨k0, k1, oa1, la1, ca1, rfl, k2⟩ := hv
  simp [Value.cells, Value.oneCell']

set_option maxRecDepth 100000 in
set_option maxHeartbeats 2000000 in
theorem cln_enm {l : List Enm} (h : SR S w0 3 (enmV S wV) oa len cap l) (w : World) (hw : Mod (fun _ => False) w0 w) :
    Calls Tryz.prog 118 #[.slice oa len cap] w fun e w' => ∃ oa' cap', e = .returned (.slice oa' l.length cap') ∧ Mod (fun _ => False) w w' ∧ SR (Nb w.heap.size w') w' 3 (enmV S wV) oa' l.length cap' l ∧
      (oa' = none ∧ l = [] ∧ cap' = 0 ∨ ∃ g cur, oa' = some ⟨g, 0, none⟩ ∧ w.heap.size ≤ g ∧ w'.heap[g]? = some (.cells cur 70 (0, 0)) ∧ l.length * 3 ≤ cur.size ∧ cap' * 3 = cur.size) := by
  have hk := h.keep (hw.kp S) (fun _ _ h => h)
  have hbig := hk.hbig
  have hlen := hk.hlen
  subst hlen
  cases oa with
  | none =>
    have hl : l = [] := hk.nil_of rfl
    subst hl
    clear h hk
    have hnil := fun (w : World) (a : Option Addr) (n c : Nat) => Lib.run_eql_slice_nil (P := Tryz.prog) w 33 70 a n c 0 0 Tryz.underlying33
    go_enter Tryz.func118, Tryz.ntmps118
    go_wp2
    go_ret
    exact ⟨none, 0, rfl, Mod.refl _ _, ⟨rfl, by simp, by simp, by simp [maxLen], fun i x hi => by simp at hi⟩, by simp⟩
  | some a =>
    obtain ⟨news, n1, n2, n3, n4⟩ := hk.newsA (fun v x hv => one_enm hv)
    have H2 : Hd _ := ⟨n2⟩
    have H3 : Hd _ := ⟨n3⟩
    have H4 : Hd _ := ⟨n4⟩
    clear h hk n2 n3 n4
    obtain ⟨i0, hi, hz0, hz1, hz2⟩ := info_parts info_70
    have ht := Tryz.underlying33
    have hnil := fun (w : World) (a : Option Addr) (n c : Nat) => Lib.run_eql_slice_nil (P := Tryz.prog) w 33 70 a n c 0 0 ht
    go_enter Tryz.func118, Tryz.ntmps118
    go_wp2_with (at_builtin; refine wpList_append_own _ rfl _ _ 33 rfl w.heap.size 70 i0 (.agg #[.int .i64 0, .string { data := #[] }, .slice none 0 0]) 3 48 ht hi hz0 hz1 hz2 (by simp [Value.cells]) (by decide) _ _ _ rfl (World.ownsRow_made w #[] 0 (Nat.le_refl _) (Nat.zero_le _) (by simp)) a l.length cap news rfl ?qc1 ?qc2 ?qc3 ?qc4 ?qc5 ?qc6 ?_)
    case qc1 => exact n1
    case qc2 => intro j u hj; exact Lib.cell?_alloc_some _ (H2.out j u hj)
    case qc3 => exact H3.out
    case qc4 => unfold maxLen; omega
    case qc5 => omega
    case qc6 => simp
    intro v' w1 hown hgrow hnil
    go_wp2
    go_ret
    have hB : Below w.heap.size w w1 := ((Below.refl _ w).alloc (Nat.le_refl _) _).grown hgrow (by simp) (by intro k hk; simp [Value.ownBlock] at hk; omega)
    obtain ⟨oa', cap', rfl, hS, hO⟩ := SR.of_ownsN (l := l) (news := news) (by simpa using hown) hbig H4.out (.inl hnil)
    exact ⟨oa', cap', rfl, .of_below hB, hS, hO⟩

theorem info_45 : (Tryz.prog.info? 45).map (fun i => (i.zero, i.size, i.bytes)) = some (some (.agg #[.int .i64 0, .string { data := #[] }, .slice none 0 0, .slice none 0 0, .string { data := #[] }, .slice none 0 0]), 6, 112) := by kernel_rfl
theorem one_fun {S : Nat → Prop} {wV : World} {v : Value} {x : Fun} (hv : funV S wV v x) : v.cells.size = 6 ∧ ∀ u ∈ v.cells, u.oneCell' = true := by
  obtain ⟨k0, k1, k2, oa1, la1, ca1, ob1, lb1, cb1, oc1, lc1, cc1, rfl, k3⟩ := hv
  simp [Value.cells, Value.oneCell']

set_option maxRecDepth 100000 in
set_option maxHeartbeats 2000000 in
theorem cln_fun {l : List Fun} (h : SR S w0 6 (funV S wV) oa len cap l) (w : World) (hw : Mod (fun _ => False) w0 w) :
    Calls Tryz.prog 119 #[.slice oa len cap] w fun e w' => ∃ oa' cap', e = .returned (.slice oa' l.length cap') ∧ Mod (fun _ => False) w w' ∧ SR (Nb w.heap.size w') w' 6 (funV S wV) oa' l.length cap' l ∧
      (oa' = none ∧ l = [] ∧ cap' = 0 ∨ ∃ g cur, oa' = some ⟨g, 0, none⟩ ∧ w.heap.size ≤ g ∧ w'.heap[g]? = some (.cells cur 45 (0, 0)) ∧ l.length * 6 ≤ cur.size ∧ cap' * 6 = cur.size) := by
  have hk := h.keep (hw.kp S) (fun _ _ h => h)
  have hbig := hk.hbig
  have hlen := hk.hlen
  subst hlen
  cases oa with
  | none =>
    have hl : l = [] := hk.nil_of rfl
    subst hl
    clear h hk
    have hnil := fun (w : World) (a : Option Addr) (n c : Nat) => Lib.run_eql_slice_nil (P := Tryz.prog) w 34 45 a n c 0 0 Tryz.underlying34
    go_enter Tryz.func119, Tryz.ntmps119
    go_wp2
    go_ret
    exact ⟨none, 0, rfl, Mod.refl _ _, ⟨rfl, by simp, by simp, by simp [maxLen], fun i x hi => by simp at hi⟩, by simp⟩
  | some a =>
    obtain ⟨news, n1, n2, n3, n4⟩ := hk.newsA (fun v x hv => one_fun hv)
    have H2 : Hd _ := ⟨n2⟩
    have H3 : Hd _ := ⟨n3⟩
    have H4 : Hd _ := ⟨n4⟩
    clear h hk n2 n3 n4
    obtain ⟨i0, hi, hz0, hz1, hz2⟩ := info_parts info_45
    have ht := Tryz.underlying34
    have hnil := fun (w : World) (a : Option Addr) (n c : Nat) => Lib.run_eql_slice_nil (P := Tryz.prog) w 34 45 a n c 0 0 ht
    go_enter Tryz.func119, Tryz.ntmps119
    go_wp2_with (at_builtin; refine wpList_append_own _ rfl _ _ 34 rfl w.heap.size 45 i0 (.agg #[.int .i64 0, .string { data := #[] }, .slice none 0 0, .slice none 0 0, .string { data := #[] }, .slice none 0 0]) 6 112 ht hi hz0 hz1 hz2 (by simp [Value.cells]) (by decide) _ _ _ rfl (World.ownsRow_made w #[] 0 (Nat.le_refl _) (Nat.zero_le _) (by simp)) a l.length cap news rfl ?qc1 ?qc2 ?qc3 ?qc4 ?qc5 ?qc6 ?_)
    case qc1 => exact n1
    case qc2 => intro j u hj; exact Lib.cell?_alloc_some _ (H2.out j u hj)
    case qc3 => exact H3.out
    case qc4 => unfold maxLen; omega
    case qc5 => omega
    case qc6 => simp
    intro v' w1 hown hgrow hnil
    go_wp2
    go_ret
    have hB : Below w.heap.size w w1 := ((Below.refl _ w).alloc (Nat.le_refl _) _).grown hgrow (by simp) (by intro k hk; simp [Value.ownBlock] at hk; omega)
    obtain ⟨oa', cap', rfl, hS, hO⟩ := SR.of_ownsN (l := l) (news := news) (by simpa using hown) hbig H4.out (.inl hnil)
    exact ⟨oa', cap', rfl, .of_below hB, hS, hO⟩
end
end Go.Proofs.YtpodeccpibnlbaaGreatDoor
