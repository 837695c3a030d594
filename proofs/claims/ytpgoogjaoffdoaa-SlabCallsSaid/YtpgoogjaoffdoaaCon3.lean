/- Contracts over 'RepS' of slab's Free, and of New. -/
import Derived.Test.YtpgoogjaoffdoaaCon2
namespace Go.Proofs.Ytpgoogjaoffdoaa
set_option linter.unusedVariables false
set_option linter.unusedSimpArgs false
open Go.RowKit

theorem sum_modify (l : List Pl) (f : Pl → Nat) (g : Pl → Pl) : ∀ (i : Nat) (p : Pl), l[i]? = some p → ((l.modify i g).map f).sum + f p = (l.map f).sum + f (g p) := by
  induction l with
  | nil => intro i p h; simp at h
  | cons q l ih =>
    intro i p h
    cases i with
    | zero => simp only [List.getElem?_cons_zero, Option.some.injEq] at h; subst h; simp; omega
    | succ i =>
      simp only [List.getElem?_cons_succ] at h
      have := ih i p h
      simp only [List.modify_succ_cons, List.map_cons, List.sum_cons]
      omega

theorem sum_mem (l : List Pl) (f : Pl → Nat) : ∀ (i : Nat) (p : Pl), l[i]? = some p → f p ≤ (l.map f).sum := by
  induction l with
  | nil => intro i p h; simp at h
  | cons q l ih =>
    intro i p h
    cases i with
    | zero => simp only [List.getElem?_cons_zero, Option.some.injEq] at h; subst h; simp
    | succ i =>
      simp only [List.getElem?_cons_succ] at h
      have := ih i p h
      simp only [List.map_cons, List.sum_cons]
      omega

theorem SS.free_len {s : SS} {N : Nat} (hW : s.WF N) : s.free.length ≤ N := by
  have h1 : s.free.length ≤ s.places.length := by
    have hsub : ∀ x ∈ s.free, x ∈ List.range s.places.length := fun x hx => by
      obtain ⟨p, hp, _⟩ := (hW.freed x).1 hx
      exact List.mem_range.2 (List.getElem?_eq_some_iff.1 hp).1
    have := List.Nodup.length_le_of_subset hW.frees hsub
    simpa using this
  have := hW.nplaces
  omega

theorem SS.live_le {s : SS} {N : Nat} (hW : s.WF N) : s.live ≤ s.used := by
  rw [hW.live, hW.used]
  have key : ∀ l : List Pl, (∀ p ∈ l, (if p.freed = true then 0 else 1) ≤ p.cells.length) → (l.map fun p => if p.freed = true then 0 else 1).sum ≤ (l.map fun p => p.cells.length).sum := by
    intro l
    induction l with
    | nil => intro _; simp
    | cons q l ih =>
      intro h
      have h1 := h q (by simp)
      have h2 := ih fun p hp => h p (by simp [hp])
      simp only [List.map_cons, List.sum_cons]
      omega
  refine key _ fun p hp => ?_
  obtain ⟨i, hi⟩ := List.getElem?_of_mem hp
  have hc := hW.cells i p hi
  have hh := hW.has i p hi
  cases hf : p.freed with
  | true => simp
  | false =>
    rw [hf] at hc
    simp only [Bool.false_eq_true, if_false] at hc ⊢
    rw [hc, List.getLast?_eq_some_getLast hh]
    exact (hW.small i p hi _ (List.getLast_mem hh)).1

section
variable {w : World} {b : Nat} {s : SS} {own : Nat → Option Rl} {L : Lo} {N : Nat}

theorem free_calls (h : RepS w b s own L) (hW : s.WF N) (a : Nat) (ha : a < 18446744073709551616) :
    Calls Try.prog 17 #[.pointer (some ⟨b, 0, none⟩), .int .u64 (a : Int)] w
      (SetPost fun e w' => e = ((s.free1 a).1 : Int) ∧ CallPost w b own (s.free1 a).2 w') := by
  unfold SS.free1
  rcases s.find_cases a with ⟨e, he, hf⟩ | ⟨i, k, hf, _⟩
  · rw [hf]
    dsimp only
    rw [if_pos (by omega)]
    refine (free_err b a w 0 0 e (find_err h hW ha hf he) he).mono fun r w' ⟨hr, hw⟩ => ⟨_, hr, rfl, own, ?_, fun _ h => Or.inl h, ?_⟩
    · rw [hw]; exact ⟨L, h⟩
    · rw [hw]; exact Mod.refl _ _
  · obtain ⟨p, hp, hpf, hk, hc, h1, hN, hiN⟩ := SS.find_good hW hf
    obtain ⟨q, g, hq, hpq, hg, hgl, c0, c1, c2, hfz⟩ := h.place hp
    have hNb := hW.bound
    rw [hf]
    dsimp only
    rw [if_neg (by omega)]
    by_cases hk0 : k = 0
    case neg =>
      rw [if_pos hk0]
      refine (free_range b a w g i k (find_yes h hW ha hf hg) (by omega)).mono fun r w' ⟨hr, hw⟩ => ⟨_, hr, rfl, own, ?_, fun _ h => Or.inl h, ?_⟩
      · rw [hw]; exact ⟨L, h⟩
      · rw [hw]; exact Mod.refl _ _
    case pos =>
    subst hk0
    rw [if_neg (by omega)]
    have hu : p.cells.length ≤ s.used := by rw [hW.used]; exact sum_mem _ (fun p => p.cells.length) i p hp
    have hl1 : 1 ≤ s.live := by
      rw [hW.live]
      have := sum_mem _ (fun p => if p.freed = true then 0 else 1) i p hp
      rw [hpf] at this
      simpa using this
    have hfits := hW.fits
    have hroom := hW.room
    have hll := SS.live_le hW
    have hfl := SS.free_len hW
    have og := h.op g hg
    have hbg : b ≠ g := ne_of_role h.ob og (by simp)
    have hbl := h.dom b (by rw [h.ob]; simp)
    have hfb : L.gf ≠ some b := fun e => absurd rfl (ne_of_role (h.of b e) h.ob (by simp))
    have hfg : L.gf ≠ some g := fun e => absurd rfl (ne_of_role (h.of g e) og (by simp))
    have hlen : (s.places[i]?.map fun p => p.cells.length).getD 0 = p.cells.length := by rw [hp]; rfl
    rw [hlen]
    refine (free_good b a w g i p.cells.length q.cc _ s.used s.live _ _ _ L.gf s.free.length L.cf (encN s.free) (find_yes h hW ha hf hg) h.base c1 c2 (hfz _) (hfz _) hu (by omega) hl1 (by omega) hbg hgl hbl h.fre hfb hfg (by omega)).mono ?_
    rintro r w' ⟨hr, g', c', w1, hS, hor, hM, hw⟩
    generalize hA : ((((((w.setCell ⟨b, 1, none⟩ (.int .i64 ((s.used : Int) - (p.cells.length : Int)))).setCell ⟨b, 2, none⟩ (.int .i64 ((s.live : Int) - 1))).setCell ⟨g, i * 3 + 1, none⟩ (.slice none 0 0)).setCell ⟨g, i * 3 + 2, none⟩ (.bool true)).alloc (.cells #[.int .i64 (i : Int)] 3)).drew) = wA at hor hM
    have hAs : wA.heap.size = w.heap.size + 1 := by rw [← hA]; simp [heap_drew]
    have hAk : ∀ j, j < w.heap.size → j ≠ b → j ≠ g → wA.heap[j]? = w.heap[j]? := fun j hj hjb hjg => by
      rw [← hA, heap_drew, Below.heap_alloc _ _ _ (by simpa using hj), Below.heap_setCell _ _ _ _ hjg, Below.heap_setCell _ _ _ _ hjg, Below.heap_setCell _ _ _ _ hjb, Below.heap_setCell _ _ _ _ hjb]
    have hAb : wA.heap[b]? = some (.cells #[.int .i64 (s.room : Int), .int .i64 ((s.used : Int) - (p.cells.length : Int)), .int .i64 ((s.live : Int) - 1), sv L.gp L.Q.length L.cp, sv L.gf s.free.length L.cf] 69 (0, 0)) := by
      rw [← hA, heap_drew, Below.heap_alloc _ _ _ (by simpa using hbl), Below.heap_setCell _ _ _ _ hbg, Below.heap_setCell _ _ _ _ hbg, heap_setCell_at (heap_setCell_at h.base)]
      simp [baseCells]
    have hPlen := flat3_len L.Q
    have hil : i < L.Q.length := (List.getElem?_eq_some_iff.1 hq).1
    have hAP : Sl wA 86 3 L.gp L.Q.length L.cp (((L.Q.flatMap LP.enc).set (i * 3 + 1) (.slice none 0 0)).set (i * 3 + 2) (.bool true)) := by
      rw [← hA]
      have hgb : L.gp ≠ some b := fun e => hbg (Option.some.inj (e.symm.trans hg))
      exact (((((h.plc.setCell ⟨b, 1, none⟩ _ hgb).setCell ⟨b, 2, none⟩ _ hgb).set hg (j := i * 3 + 1) (by omega) _).set hg (j := i * 3 + 2) (by rw [List.length_set]; omega) _).alloc _).drew
    have hg'b : g' ≠ b := by
      rcases hor with e | e
      · exact fun x => hfb (by rw [← e, x])
      · omega
    have h1b : w1.heap[b]? = _ := (hM.block b (by omega) (fun e => hfb e.symm)).trans hAb
    have hwk : ∀ j, j < w.heap.size → j ≠ b → j ≠ g → some j ≠ L.gf → w'.heap[j]? = w.heap[j]? := fun j hj hjb hjg hjf => by
      rw [hw, Below.heap_setCell _ _ _ _ hjb, hM.block j (by omega) hjf, hAk j hj hjb hjg]
    have hw's : w1.heap.size = w'.heap.size := by rw [hw]; simp
    have hsz := hM.size
    have hg'lt : g' < w1.heap.size := hS.lt rfl
    have ogf : ∀ j r, own j = some r → r ≠ .fre → some j ≠ L.gf := fun j r hj hr e => hr (Option.some.inj (hj.symm.trans (h.of j e.symm)))
    have hkeep : ∀ j r, own j = some r → r ≠ .base → r ≠ .plc → r ≠ .fre → w'.heap[j]? = w.heap[j]? := fun j r hj hr1 hr2 hr3 =>
      hwk j (h.dom j (by rw [hj]; simp)) (ne_of_role hj h.ob hr1) (ne_of_role hj og hr2) (ogf j r hj hr3)
    refine ⟨_, hr, rfl, fun j => if j = g' then some .fre else own j, ⟨{ L with gf := some g', cf := c', Q := L.Q.set i { q with pl := { p with cells := [], freed := true }, gc := none, cc := 0 } }, h.upd hq ?_ ?_ ?_ ?_ ?_ ?_ ?_ ?_ ?_ ?_ ?_ ?_ ?_⟩, ?_, ?_⟩
    · omega
    · simp only [SS.upd]; rw [modify_set _ _ _ _ hp]
    · rw [hw, heap_setCell_at h1b]
      simp [baseCells, SS.upd, sv]
      omega
    · intro j r hj hr1 hr2 hr3 hr4 hr5
      exact hkeep j r hj hr1 hr2 hr3
    · rw [flat3_set L.Q i q _ hq]
      have e0 := flat3_get L.Q i q hq 0 (by omega)
      simp only [LP.enc, hpq, Nat.add_zero, List.getElem?_cons_zero] at e0
      rw [set_same _ _ _ e0]
      have h3 := (hAP.keep fun g'' hg'' => hM.block g'' (by have := hAP.lt hg''; omega) (fun e => hfg (e.symm.trans (hg''.symm.trans hg)))).setCell ⟨b, 4, none⟩ (.slice (some ⟨g', 0, none⟩) (s.free.length + 1) c') (fun e => hbg (Option.some.inj (e.symm.trans hg)))
      rw [hw]
      exact h3
    · rw [hw]
      have h3 := hS.setCell ⟨b, 4, none⟩ (.slice (some ⟨g', 0, none⟩) (s.free.length + 1) c') (fun e => hg'b (Option.some.inj e))
      simpa [encN] using h3
    · intro x hx; obtain rfl := Option.some.inj hx; simp
    · have h3 := (h.siz i q hq).keep fun g'' hg'' => hkeep g'' _ (h.osz i q hq g'' hg'') (by simp) (by simp) (by simp)
      rw [hpq] at h3
      exact h3
    · intro x hx
      have ox := h.osz i q hq x hx
      have : x ≠ g' := by
        rcases hor with e | e
        · exact ne_of_role ox (h.of g' e.symm) (by simp)
        · have := h.dom x (by rw [ox]; simp); omega
      simp only [this, if_false]
      exact ox
    · exact Sl.nilOf _ _ _
    · intro x hx; cases hx
    · intro x hx
      by_cases e : x = g'
      · subst e
        rcases hor with e | e
        · simp [h.of x e.symm]
        · have := h.dom x hx; omega
      · simp [e]
    · intro x hx
      by_cases e : x = g'
      · exact Or.inr (by omega)
      · simp only [e, if_false] at hx
        exact Or.inl hx
    · intro x hx
      by_cases e : x = g'
      · subst e
        rcases hor with e | e
        · exact Or.inl (by rw [h.of x e.symm]; simp)
        · exact Or.inr (by omega)
      · simp only [e, if_false] at hx
        exact Or.inl hx
    · refine ⟨?_, ?_, ?_, by omega, ?_⟩
      · rw [hw]; exact hM.os.trans (by rw [← hA]; rfl)
      · rw [hw]; exact hM.tape.trans (by rw [← hA]; rfl)
      · rw [hw]; exact hM.output.trans (by rw [← hA]; rfl)
      · intro j hj hd
        have hd' : own j = none := by unfold Dom at hd; simpa using hd
        refine hwk j hj ?_ ?_ ?_
        · rintro rfl; rw [h.ob] at hd'; cases hd'
        · rintro rfl; rw [og] at hd'; cases hd'
        · intro e; rw [h.of j e.symm] at hd'; cases hd'
end
end Go.Proofs.Ytpgoogjaoffdoaa
