/- The document's slab: one more piece, in memory. -/
import Derived.Test.YtpgoogjaoffdoaaRef12
namespace Go.Proofs.Ytpgoogjaoffdoaa
set_option linter.unusedVariables false
set_option linter.unusedSimpArgs false
open Go.RowKit

theorem three (w : World) (A B C : Obj) : Mod (fun _ => False) w (((w.alloc A).alloc B).alloc C).drew ∧ (((w.alloc A).alloc B).alloc C).drew.heap[w.heap.size]? = some A ∧
    (((w.alloc A).alloc B).alloc C).drew.heap[w.heap.size + 1]? = some B ∧ (((w.alloc A).alloc B).alloc C).drew.heap[w.heap.size + 1 + 1]? = some C := by
  refine ⟨(((Mod.alloc (fun _ => False) _ _).trans (Mod.alloc (fun _ => False) _ _) (fun _ h => Or.inl h)).trans (Mod.alloc (fun _ => False) _ _) (fun _ h => Or.inl h)).trans (Mod.drew (fun _ => False) _) (fun _ h => Or.inl h), ?_, ?_, ?_⟩
  · rw [heap_drew, Below.heap_alloc _ _ _ (by simp; omega), Below.heap_alloc _ _ _ (by simp)]
    exact heap_alloc_new w A
  · rw [heap_drew, Below.heap_alloc _ _ _ (by simp)]
    have := heap_alloc_new (w.alloc A) B
    simpa using this
  · have := heap_alloc_new ((w.alloc A).alloc B) C
    rw [heap_drew]
    simpa using this

def pcCells (idx age n y1 y2 : Nat) : List Value := [.int .i64 (idx : Int), .int .i64 (age : Int), .slice (some ⟨y1, 0, none⟩) n n, .slice (some ⟨y2, 0, none⟩) n n, .bool false]

/-- The three blocks of a new piece. -/
structure NewPc (w w' : World) (idx age n y1 y2 y3 : Nat) : Prop where
  mod : Mod (fun _ => False) w w'
  l1 : w.heap.size ≤ y1
  l2 : w.heap.size ≤ y2
  l3 : w.heap.size ≤ y3
  n12 : y1 ≠ y2
  n13 : y1 ≠ y3
  n23 : y2 ≠ y3
  h1 : w'.heap[y1]? = some (.cells (madeCells #[.int .i64 0] n) 2)
  h2 : w'.heap[y2]? = some (.cells (madeCells #[.bool false] n) 4)
  h3 : w'.heap[y3]? = some (.cells (pcCells idx age n y1 y2).toArray 93)

theorem newPc123 (w : World) (idx age n : Nat) : NewPc w (((w.alloc (.cells (madeCells #[.int .i64 0] n) 2)).alloc (.cells (madeCells #[.bool false] n) 4)).alloc (.cells #[.int .i64 (idx : Int), .int .i64 (age : Int), .slice (some ⟨w.heap.size, 0, none⟩) n n, .slice (some ⟨w.heap.size + 1, 0, none⟩) n n, .bool false] 93)).drew idx age n w.heap.size (w.heap.size + 1) (w.heap.size + 1 + 1) := by
  have t := three w (.cells (madeCells #[.int .i64 0] n) 2) (.cells (madeCells #[.bool false] n) 4) (.cells #[.int .i64 (idx : Int), .int .i64 (age : Int), .slice (some ⟨w.heap.size, 0, none⟩) n n, .slice (some ⟨w.heap.size + 1, 0, none⟩) n n, .bool false] 93)
  exact ⟨t.1, by omega, by omega, by omega, by omega, by omega, by omega, t.2.1, t.2.2.1, t.2.2.2⟩
theorem newPc132 (w : World) (idx age n : Nat) : NewPc w (((w.alloc (.cells (madeCells #[.int .i64 0] n) 2)).alloc (.cells #[.int .i64 (idx : Int), .int .i64 (age : Int), .slice (some ⟨w.heap.size, 0, none⟩) n n, .slice (some ⟨w.heap.size + 1 + 1, 0, none⟩) n n, .bool false] 93)).alloc (.cells (madeCells #[.bool false] n) 4)).drew idx age n w.heap.size (w.heap.size + 1 + 1) (w.heap.size + 1) := by
  have t := three w (.cells (madeCells #[.int .i64 0] n) 2) (.cells #[.int .i64 (idx : Int), .int .i64 (age : Int), .slice (some ⟨w.heap.size, 0, none⟩) n n, .slice (some ⟨w.heap.size + 1 + 1, 0, none⟩) n n, .bool false] 93) (.cells (madeCells #[.bool false] n) 4)
  exact ⟨t.1, by omega, by omega, by omega, by omega, by omega, by omega, t.2.1, t.2.2.2, t.2.2.1⟩
theorem newPc213 (w : World) (idx age n : Nat) : NewPc w (((w.alloc (.cells (madeCells #[.bool false] n) 4)).alloc (.cells (madeCells #[.int .i64 0] n) 2)).alloc (.cells #[.int .i64 (idx : Int), .int .i64 (age : Int), .slice (some ⟨w.heap.size + 1, 0, none⟩) n n, .slice (some ⟨w.heap.size, 0, none⟩) n n, .bool false] 93)).drew idx age n (w.heap.size + 1) w.heap.size (w.heap.size + 1 + 1) := by
  have t := three w (.cells (madeCells #[.bool false] n) 4) (.cells (madeCells #[.int .i64 0] n) 2) (.cells #[.int .i64 (idx : Int), .int .i64 (age : Int), .slice (some ⟨w.heap.size + 1, 0, none⟩) n n, .slice (some ⟨w.heap.size, 0, none⟩) n n, .bool false] 93)
  exact ⟨t.1, by omega, by omega, by omega, by omega, by omega, by omega, t.2.2.1, t.2.1, t.2.2.2⟩
theorem newPc231 (w : World) (idx age n : Nat) : NewPc w (((w.alloc (.cells (madeCells #[.bool false] n) 4)).alloc (.cells #[.int .i64 (idx : Int), .int .i64 (age : Int), .slice (some ⟨w.heap.size + 1 + 1, 0, none⟩) n n, .slice (some ⟨w.heap.size, 0, none⟩) n n, .bool false] 93)).alloc (.cells (madeCells #[.int .i64 0] n) 2)).drew idx age n (w.heap.size + 1 + 1) w.heap.size (w.heap.size + 1) := by
  have t := three w (.cells (madeCells #[.bool false] n) 4) (.cells #[.int .i64 (idx : Int), .int .i64 (age : Int), .slice (some ⟨w.heap.size + 1 + 1, 0, none⟩) n n, .slice (some ⟨w.heap.size, 0, none⟩) n n, .bool false] 93) (.cells (madeCells #[.int .i64 0] n) 2)
  exact ⟨t.1, by omega, by omega, by omega, by omega, by omega, by omega, t.2.2.2, t.2.1, t.2.2.1⟩
theorem newPc312 (w : World) (idx age n : Nat) : NewPc w (((w.alloc (.cells #[.int .i64 (idx : Int), .int .i64 (age : Int), .slice (some ⟨w.heap.size + 1, 0, none⟩) n n, .slice (some ⟨w.heap.size + 1 + 1, 0, none⟩) n n, .bool false] 93)).alloc (.cells (madeCells #[.int .i64 0] n) 2)).alloc (.cells (madeCells #[.bool false] n) 4)).drew idx age n (w.heap.size + 1) (w.heap.size + 1 + 1) w.heap.size := by
  have t := three w (.cells #[.int .i64 (idx : Int), .int .i64 (age : Int), .slice (some ⟨w.heap.size + 1, 0, none⟩) n n, .slice (some ⟨w.heap.size + 1 + 1, 0, none⟩) n n, .bool false] 93) (.cells (madeCells #[.int .i64 0] n) 2) (.cells (madeCells #[.bool false] n) 4)
  exact ⟨t.1, by omega, by omega, by omega, by omega, by omega, by omega, t.2.2.1, t.2.2.2, t.2.1⟩
theorem newPc321 (w : World) (idx age n : Nat) : NewPc w (((w.alloc (.cells #[.int .i64 (idx : Int), .int .i64 (age : Int), .slice (some ⟨w.heap.size + 1 + 1, 0, none⟩) n n, .slice (some ⟨w.heap.size + 1, 0, none⟩) n n, .bool false] 93)).alloc (.cells (madeCells #[.bool false] n) 4)).alloc (.cells (madeCells #[.int .i64 0] n) 2)).drew idx age n (w.heap.size + 1 + 1) (w.heap.size + 1) w.heap.size := by
  have t := three w (.cells #[.int .i64 (idx : Int), .int .i64 (age : Int), .slice (some ⟨w.heap.size + 1 + 1, 0, none⟩) n n, .slice (some ⟨w.heap.size + 1, 0, none⟩) n n, .bool false] 93) (.cells (madeCells #[.bool false] n) 4) (.cells (madeCells #[.int .i64 0] n) 2)
  exact ⟨t.1, by omega, by omega, by omega, by omega, by omega, by omega, t.2.2.2, t.2.2.1, t.2.1⟩

theorem row_at {w : World} {l : List Value} {t : TypeId} {a : Nat} (h : w.heap[a]? = some (.cells l.toArray t)) : ∀ j v, l[j]? = some v → w.cell? ((⟨a, 0, none⟩ : Addr).add j) = some v := by
  intro j v hj
  rw [Addr.add_lit, Nat.zero_add]
  simp [World.cell?, h, hj]

theorem RRepS.push {w w5 : World} {b : Nat} {r : RSS} {own : Nat → Option Rr} {L : RLo} (h : RRepS w b r own L) {g' c' y1 y2 : Nat} {p : RPc} {cv ch : Nat}
    (hS : Sl w5 93 5 (some g') (L.Q.length + 1) c' (L.Q.flatMap RQ.enc ++ RQ.enc ⟨p, some y1, cv, some y2, ch⟩)) (hg : some g' = L.gp ∨ own g' = none)
    (o1 : own y1 = none) (o2 : own y2 = none) (n12 : y1 ≠ y2) (n1 : y1 ≠ g') (n2 : y2 ≠ g') (hsz : w.heap.size ≤ w5.heap.size)
    (hk : ∀ k, own k ≠ none → some k ≠ L.gp → w5.heap[k]? = w.heap[k]?) (hV : Sl w5 2 1 (some y1) p.vals.length cv (encI p.vals)) (hH : Sl w5 4 1 (some y2) p.has.length ch (encB p.has)) :
    RRepS (w5.setCell ⟨b, 1, none⟩ (.slice (some ⟨g', 0, none⟩) (L.Q.length + 1) c')) b { r with pcs := r.pcs ++ [p] }
      (fun k => if k = g' then some .plc else if k = y1 then some (.val L.Q.length) else if k = y2 then some (.has L.Q.length) else own k) { L with gp := some g', cp := c', Q := L.Q ++ [⟨p, some y1, cv, some y2, ch⟩] } := by
  have hbg : b ≠ g' := fun e => by
    rcases hg with h1 | h1
    · have := h.op g' h1.symm
      rw [← e, h.ob] at this; cases this
    · rw [← e, h.ob] at h1; cases h1
  have hb1 : b ≠ y1 := fun e => by rw [← e, h.ob] at o1; cases o1
  have hb2 : b ≠ y2 := fun e => by rw [← e, h.ob] at o2; cases o2
  have hbp : some b ≠ L.gp := fun e => by have := h.op b e.symm; rw [h.ob] at this; cases this
  have hblk : ∀ k, k ≠ b → (w5.setCell ⟨b, 1, none⟩ (.slice (some ⟨g', 0, none⟩) (L.Q.length + 1) c')).heap[k]? = w5.heap[k]? := fun k h1 => Below.heap_setCell _ _ _ _ h1
  have keep : ∀ {k : Nat} {x : Rr}, own k = some x → x ≠ .plc → x ≠ .base → (w5.setCell ⟨b, 1, none⟩ (.slice (some ⟨g', 0, none⟩) (L.Q.length + 1) c')).heap[k]? = w.heap[k]? := fun {k x} h1 h2 h3 => by
    rw [hblk k (fun e => by rw [e, h.ob] at h1; exact h3 (Option.some.inj h1).symm)]
    exact hk k (by rw [h1]; simp) (fun e => by have := h.op k e.symm; rw [h1] at this; exact h2 (Option.some.inj this))
  have hown : ∀ {k : Nat} {x : Rr}, own k = some x → x ≠ .plc → (if k = g' then some Rr.plc else if k = y1 then some (.val L.Q.length) else if k = y2 then some (.has L.Q.length) else own k) = some x := fun {k x} h1 h2 => by
    rw [if_neg (fun e => by
        rcases hg with h3 | h3
        · have := h.op g' h3.symm; rw [← e, h1] at this; exact h2 (Option.some.inj this)
        · rw [← e, h1] at h3; cases h3), if_neg (fun e => by rw [← e, h1] at o1; cases o1), if_neg (fun e => by rw [← e, h1] at o2; cases o2)]
    exact h1
  have key : ∀ (i : Nat) (q : RQ), (L.Q ++ [⟨p, some y1, cv, some y2, ch⟩])[i]? = some q → L.Q[i]? = some q ∨ (i = L.Q.length ∧ q = ⟨p, some y1, cv, some y2, ch⟩) := by
    intro i q hq
    by_cases hi : i < L.Q.length
    · rw [List.getElem?_append_left hi] at hq; exact Or.inl hq
    · rw [List.getElem?_append_right (by omega)] at hq
      have hz : i - L.Q.length = 0 := by
        have := (List.getElem?_eq_some_iff.1 hq).1
        simpa using this
      rw [hz] at hq
      exact Or.inr ⟨by omega, (Option.some.inj hq).symm⟩
  refine ⟨?_, ?_, hown h.ob (by simp), ?_, ?_, ?_, ?_, fun g hg => hown (h.of g hg) (by simp), ?_, ?_, ?_, ?_⟩
  · intro k hk'
    rw [World.size_setCell]
    by_cases e : k = g'
    · rw [e]; exact hS.lt rfl
    rw [if_neg e] at hk'
    by_cases e1 : k = y1
    · rw [e1]; exact hV.lt rfl
    rw [if_neg e1] at hk'
    by_cases e2 : k = y2
    · rw [e2]; exact hH.lt rfl
    rw [if_neg e2] at hk'
    exact Nat.lt_of_lt_of_le (h.dom k hk') hsz
  · rw [heap_setCell_at ((hk b (by rw [h.ob]; simp) hbp).trans h.base)]
    simp [rCells, sv]
  · simp [h.pcs]
  · have := hS.setCell ⟨b, 1, none⟩ (.slice (some ⟨g', 0, none⟩) (L.Q.length + 1) c') (fun e => hbg (Option.some.inj e).symm)
    simpa using this
  · intro g hg1
    obtain rfl := Option.some.inj hg1
    simp
  · exact h.fre.keep fun g hg1 => keep (h.of g hg1) (by simp) (by simp)
  · intro i q hq
    rcases key i q hq with hq | ⟨rfl, rfl⟩
    · exact (h.val i q hq).keep fun g hg1 => keep (h.ov i q hq g hg1) (by simp) (by simp)
    · exact hV.setCell _ _ (fun e => hb1 (Option.some.inj e).symm)
  · intro i q hq g hg1
    rcases key i q hq with hq | ⟨rfl, rfl⟩
    · exact hown (h.ov i q hq g hg1) (by simp)
    · obtain rfl := Option.some.inj hg1
      rw [if_neg n1, if_pos rfl]
  · intro i q hq
    rcases key i q hq with hq | ⟨rfl, rfl⟩
    · exact (h.has i q hq).keep fun g hg1 => keep (h.oh i q hq g hg1) (by simp) (by simp)
    · exact hH.setCell _ _ (fun e => hb2 (Option.some.inj e).symm)
  · intro i q hq g hg1
    rcases key i q hq with hq | ⟨rfl, rfl⟩
    · exact hown (h.oh i q hq g hg1) (by simp)
    · obtain rfl := Option.some.inj hg1
      rw [if_neg n2, if_neg (fun e => n12 e.symm), if_pos rfl]

theorem made_one (v : Value) (n : Nat) : madeCells #[v] n = (List.replicate n v).toArray := by
  apply Array.ext_getElem?
  intro i
  simp only [madeCells, List.getElem?_toArray]
  by_cases hi : i < n
  · simp [hi, List.getElem?_replicate, Nat.mod_one]
  · simp [hi, List.getElem?_replicate]

theorem Sl.made {w : World} {a e n : Nat} {v : Value} (hn : n ≤ 4095) (h : w.heap[a]? = some (.cells (madeCells #[v] n) e)) : Sl w e 1 (some a) n n (List.replicate n v) := by
  refine ⟨by simp, Nat.le_refl _, by unfold maxLen; omega, fun h => (by cases h), fun g hg => ?_⟩
  obtain rfl := Option.some.inj hg
  refine ⟨_, h, ?_, ?_⟩ <;> simp [made_one]
end Go.Proofs.Ytpgoogjaoffdoaa
