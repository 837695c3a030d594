/- Contracts over 'RepS' of slab's index, Get, New. -/
import Derived.Test.YtpgoogjaoffdoaaCon3
import Derived.Test.YtpgoogjaoffdoaaGet3
namespace Go.Proofs.Ytpgoogjaoffdoaa
set_option linter.unusedVariables false
set_option linter.unusedSimpArgs false
open Go.RowKit

theorem zeros_list (k : Nat) : (zeros k).toList = encC (List.replicate k (0, false)) := by
  apply List.ext_getElem?
  intro j
  have hl := encC_len (List.replicate k ((0 : Int), false))
  simp only [List.length_replicate] at hl
  by_cases hj : j < k * 2
  · have hz : (zeros k).toList[j]? = some (#[Value.int .i64 0, Value.bool false][j % 2]!) := by
      simp [zeros, madeCells, hj]
    rw [hz]
    have hg := encC_get (List.replicate k ((0 : Int), false)) (j / 2) (0, false) (by simp [List.getElem?_replicate]; omega)
    rcases Nat.mod_two_eq_zero_or_one j with h | h
    · have e : j / 2 * 2 = j := by omega
      rw [e] at hg
      rw [hg.1, h]
      rfl
    · have e : j / 2 * 2 + 1 = j := by omega
      rw [e] at hg
      rw [hg.2, h]
      rfl
  · rw [List.getElem?_eq_none (by simp [zeros, madeCells]; omega), List.getElem?_eq_none (by omega)]

theorem zeros_size (k : Nat) : (zeros k).size = k * 2 := by simp [zeros, madeCells]

theorem Sl.of_zeros {w : World} {y k : Nat} (h : w.heap[y]? = some (.cells (zeros k) 89 (0, 0))) (hk : k ≤ maxLen) : Sl w 89 2 (some y) k k (encC (List.replicate k (0, false))) :=
  ⟨by rw [encC_len, List.length_replicate], Nat.le_refl _, hk, fun h => (by cases h), fun g hg => by
    obtain rfl := Option.some.inj hg
    exact ⟨_, h, by rw [zeros_size]; exact Nat.le_refl _, by rw [zeros_list]; exact List.take_of_length_le (by rw [encC_len, List.length_replicate]; exact Nat.le_refl _)⟩⟩

section
variable {w : World} {b : Nat} {s : SS} {own : Nat → Option Rl} {L : Lo} {N : Nat}

def IdxPost (w : World) (b : Nat) (own : Nat → Option Rl) (s1 : SS) (x : (Nat → Option Rl) × Lo) (w' : World) : Prop :=
  RepS w' b s1 x.1 x.2 ∧ Ext own x.1 w ∧ Mod (Dom own) w w'

theorem index_calls (h : RepS w b s own L) (hW : s.WF N) :
    Calls Try.prog 38 #[.pointer (some ⟨b, 0, none⟩)] w fun e w' => e = .returned (.int .i64 (s.index.1 : Int)) ∧ ∃ x, IdxPost w b own s.index.2 x w' := by
  have hbl := h.dom b (by rw [h.ob]; simp)
  have hN := hW.bound
  have hnp := hW.nplaces
  have hQ : s.places.length = L.Q.length := by rw [h.pls, List.length_map]
  unfold SS.index
  cases hl : s.free.getLast? with
  | some i =>
    obtain ⟨init, hin⟩ : ∃ init, s.free = init ++ [i] := by
      rcases List.eq_nil_or_concat s.free with e | ⟨init, x, e⟩
      · rw [e] at hl; simp at hl
      · rw [List.concat_eq_append] at e; rw [e] at hl; simp at hl; exact ⟨init, by rw [e, hl]⟩
    have hfre := h.fre
    have hlen : s.free.length = init.length + 1 := by rw [hin]; simp
    rw [hlen] at hfre
    obtain ⟨gf, hgf⟩ := hfre.some_of (by omega)
    have hbase := h.base
    unfold baseCells at hbase
    rw [hgf, hlen] at hbase
    have hx : w.cell? ⟨gf, init.length, none⟩ = some (.int .i64 (i : Int)) := hfre.cell hgf (encN_get _ _ _ (by rw [hin]; simp))
    have hne : gf ≠ b := (ne_of_role h.ob (h.of gf hgf) (by simp)).symm
    have hcm := hfre.max
    unfold maxLen at hcm
    refine (index_take b w _ _ _ _ gf init.length L.cf i hbase hfre.le (by omega) hx hne).mono ?_
    rintro e w' ⟨rfl, hw⟩
    refine ⟨rfl, (own, { L with cf := init.length }), ?_, fun _ h => Or.inl h, ?_⟩
    · have hk : ∀ j, j ≠ b → w'.heap[j]? = w.heap[j]? := fun j hj => by rw [hw, Below.heap_setCell _ _ _ _ hj]
      have hkr : ∀ j r, own j = some r → r ≠ .base → w'.heap[j]? = w.heap[j]? := fun j r hj hr => hk j (ne_of_role hj h.ob hr)
      refine ⟨fun k hk => by rw [hw]; simpa using h.dom k hk, ?_, h.ob, h.pls, h.plc.keep fun g hg => hkr g _ (h.op g hg) (by simp), h.op, ?_, h.of,
        fun j q hq => (h.siz j q hq).keep fun g hg => hkr g _ (h.osz j q hq g hg) (by simp), h.osz, fun j q hq => (h.cel j q hq).keep fun g hg => hkr g _ (h.oce j q hq g hg) (by simp), h.oce⟩
      · rw [hw, heap_setCell_at hbase]
        simp [baseCells, sv, hgf, hin]
      · have hd : s.free.dropLast = init := by rw [hin]; simp
        rw [hd]
        refine ⟨by simp [encN], Nat.le_refl _, (by unfold maxLen; have := SS.free_len hW; show init.length ≤ _; omega), (fun e => (by rw [hgf] at e; cases e)), fun g hg => ?_⟩
        obtain ⟨cur, c1, c2, c3⟩ := hfre.row g hg
        refine ⟨cur, (hkr g _ (h.of g hg) (by simp)).trans c1, ?_, ?_⟩
        · have := hfre.le; show init.length * 1 ≤ _; omega
        · have : (cur.toList.take ((init.length + 1) * 1)).take (init.length * 1) = (encN s.free).take (init.length * 1) := by rw [c3]
          rw [List.take_take, Nat.min_eq_left (by omega)] at this
          rw [this, hin]
          simp [encN]
    · rw [hw]; exact Mod.setCell _ _ _ (by unfold Dom; rw [h.ob]; simp)
  | none =>
    have hnil : s.free = [] := by simpa using hl
    have hbase := h.base
    unfold baseCells at hbase
    rw [hnil] at hbase
    have hne : L.gp ≠ some b := fun e => absurd rfl (ne_of_role (h.op b e) h.ob (by simp))
    refine (index_new b w _ _ _ L.gp L.Q.length L.cp _ L.cf (L.Q.flatMap LP.enc) hbase hbl h.plc hne (by omega)).mono ?_
    rintro e w' ⟨rfl, g', c', w1, hS, hor, hM, hw⟩
    generalize hA : w.alloc (.cells #[.slice none 0 0, .slice none 0 0, .bool false] 86) = wA at hor hM
    have hAs : wA.heap.size = w.heap.size + 1 := by rw [← hA]; simp
    have hAk : ∀ j, j < w.heap.size → wA.heap[j]? = w.heap[j]? := fun j hj => by rw [← hA]; exact Below.heap_alloc _ _ _ hj
    have hg'b : g' ≠ b := by
      rcases hor with e | e
      · exact fun x => hne (by rw [← e, x])
      · omega
    have hsz := hM.size
    have hg'lt : g' < w1.heap.size := hS.lt rfl
    have hw's : w'.heap.size = w1.heap.size := by rw [hw]; simp
    have hwk : ∀ j, j < w.heap.size → j ≠ b → some j ≠ L.gp → w'.heap[j]? = w.heap[j]? := fun j hj hjb hjg => by
      rw [hw, Below.heap_setCell _ _ _ _ hjb, hM.block j (by omega) hjg, hAk j hj]
    have hkr : ∀ j r, own j = some r → r ≠ .base → r ≠ .plc → w'.heap[j]? = w.heap[j]? := fun j r hj hr1 hr2 =>
      hwk j (h.dom j (by rw [hj]; simp)) (ne_of_role hj h.ob hr1) (fun e => hr2 (Option.some.inj (hj.symm.trans (h.op j e.symm))))
    have hb1 : w1.heap[b]? = _ := ((hM.block b (by omega) (fun e => hne e.symm)).trans (hAk b hbl)).trans hbase
    have hown : ∀ x, own x ≠ none → own x ≠ some .plc → x ≠ g' := fun x hx hx2 => by
      rintro rfl
      rcases hor with e | e
      · exact hx2 (h.op x e.symm)
      · have := h.dom x hx; omega
    refine ⟨by rw [hQ], (fun j => if j = g' then some .plc else own j, { L with gp := some g', cp := c', Q := L.Q ++ [⟨⟨[], [], false⟩, none, 0, none, 0⟩] }), ?_, ?_, ?_⟩
    · have keepS : ∀ (j : Nat) (q : LP), (L.Q ++ [(⟨⟨[], [], false⟩, none, 0, none, 0⟩ : LP)])[j]? = some q → L.Q[j]? = some q ∨ q = ⟨⟨[], [], false⟩, none, 0, none, 0⟩ := by
        intro j q hq
        rw [List.getElem?_append] at hq
        split at hq
        · exact Or.inl hq
        · right
          cases hj : j - L.Q.length with
          | zero => rw [hj] at hq; simpa using hq.symm
          | succ n => rw [hj] at hq; simp at hq
      refine ⟨fun k hk => ?_, ?_, ?_, ?_, ?_, ?_, ?_, ?_, ?_, ?_, ?_, ?_⟩
      · by_cases e : k = g'
        · omega
        · simp only [e, if_false] at hk
          have := h.dom k hk; omega
      · rw [hw, heap_setCell_at hb1]
        simp [baseCells, sv, hnil]
      · have := hg'b.symm
        simp only [this, if_false]
        exact h.ob
      · simp [h.pls]
      · have h3 := hS.setCell ⟨b, 3, none⟩ (.slice (some ⟨g', 0, none⟩) (L.Q.length + 1) c') (fun e => hg'b (Option.some.inj e))
        rw [hw]
        simpa [LP.enc, sv] using h3
      · intro x hx; obtain rfl := Option.some.inj hx; simp
      · exact h.fre.keep fun g hg => hkr g _ (h.of g hg) (by simp) (by simp)
      · intro x hx
        have ox := h.of x hx
        have := hown x (by rw [ox]; simp) (by rw [ox]; simp)
        simp only [this, if_false]
        exact ox
      · intro j q hq
        rcases keepS j q hq with hq | rfl
        · exact (h.siz j q hq).keep fun g hg => hkr g _ (h.osz j q hq g hg) (by simp) (by simp)
        · exact Sl.nilOf _ _ _
      · intro j q hq x hx
        rcases keepS j q hq with hq | rfl
        · have ox := h.osz j q hq x hx
          have := hown x (by rw [ox]; simp) (by rw [ox]; simp)
          simp only [this, if_false]
          exact ox
        · cases hx
      · intro j q hq
        rcases keepS j q hq with hq | rfl
        · exact (h.cel j q hq).keep fun g hg => hkr g _ (h.oce j q hq g hg) (by simp) (by simp)
        · exact Sl.nilOf _ _ _
      · intro j q hq x hx
        rcases keepS j q hq with hq | rfl
        · have ox := h.oce j q hq x hx
          have := hown x (by rw [ox]; simp) (by rw [ox]; simp)
          simp only [this, if_false]
          exact ox
        · cases hx
    · intro x hx
      by_cases e : x = g'
      · subst e
        rcases hor with e | e
        · exact Or.inl (by rw [h.op x e.symm]; simp)
        · exact Or.inr (by omega)
      · simp only [e, if_false] at hx
        exact Or.inl hx
    · refine ⟨?_, ?_, ?_, by omega, ?_⟩
      · rw [hw]; exact hM.os.trans (by rw [← hA]; rfl)
      · rw [hw]; exact hM.tape.trans (by rw [← hA]; rfl)
      · rw [hw]; exact hM.output.trans (by rw [← hA]; rfl)
      · intro j hj hd
        have hd' : own j = none := by unfold Dom at hd; simpa using hd
        refine hwk j hj ?_ ?_
        · rintro rfl; rw [h.ob] at hd'; cases hd'
        · intro e; rw [h.op j e.symm] at hd'; cases hd'
end
end Go.Proofs.Ytpgoogjaoffdoaa
