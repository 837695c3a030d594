/- Types as lists of bytes: what the laws on names, on making and on depth say: plain law. -/
import Derived.Test.YtfdbmpcfphlmoaaDoorK
namespace Go.Proofs.YtfdbmpcfphlmoaaDoor
set_option linter.unusedVariables false
set_option linter.unusedSimpArgs false

/-- The first blank parts a text in one way. -/
theorem split_one : ∀ (l p r t : Bs), (32 : UInt8) ∉ l → (32 : UInt8) ∉ p → l ++ 32 :: r = p ++ 32 :: t → l = p ∧ r = t
  | [], [], r, t, _, _, h => ⟨rfl, by simpa using h⟩
  | [], c :: p, r, t, _, hp, h => by
    simp at h
    exact absurd (by rw [← h.1]; simp) hp
  | c :: l, [], r, t, hl, _, h => by
    simp at h
    exact absurd (by rw [h.1]; simp) hl
  | c :: l, d :: p, r, t, hl, hp, h => by
    simp only [List.cons_append, List.cons.injEq] at h
    have := split_one l p r t (fun hm => hl (List.mem_cons_of_mem _ hm)) (fun hm => hp (List.mem_cons_of_mem _ hm)) h.2
    exact ⟨by rw [h.1, this.1], this.2⟩

theorem not_fronted {l p r : Bs} (hl : (32 : UInt8) ∉ l) (hp : (32 : UInt8) ∉ p) (hne : l ≠ p) : fronted (p ++ [32]) (l ++ 32 :: r) = false := by
  cases h : fronted (p ++ [32]) (l ++ 32 :: r) with
  | false => rfl
  | true =>
    obtain ⟨t, ht⟩ := (fronted_iff _ _).1 h
    have := split_one l p r t hl hp (by rw [ht]; simp)
    exact absurd this.1 hne

/-- A word that is not box, ref or mut, and a blank behind it: no type. -/
theorem kind_blank {l r : Bs} (hl : (32 : UInt8) ∉ l) (h1 : l ≠ [98, 111, 120]) (h2 : l ≠ [114, 101, 102]) (h3 : l ≠ [109, 117, 116]) : kindI (l ++ 32 :: r) = 0 := by
  have f1 : fronted boxB (l ++ 32 :: r) = false := not_fronted (p := [98, 111, 120]) hl (by decide) h1
  have f2 : fronted refB (l ++ 32 :: r) = false := not_fronted (p := [114, 101, 102]) hl (by decide) h2
  have f3 : fronted mutB (l ++ 32 :: r) = false := not_fronted (p := [109, 117, 116]) hl (by decide) h3
  have hg : goodB (l ++ 32 :: r) = false := by
    cases h : goodB (l ++ 32 :: r) with
    | false => rfl
    | true => exact absurd (by simp) (good_no_blank h)
  have hp : plainI (l ++ 32 :: r) = false := by
    unfold plainI
    rw [strip_not f1]
    simp [hg]
  unfold kindI frontI
  rw [f2, f3]
  simp [hp]

theorem name_not_word {l w : Bs} (h : isName l = true) (hw : isWord w = true) : l ≠ w := by
  intro e
  subst e
  unfold isName at h
  rw [hw] at h
  simp at h

theorem name_kind {l : Bs} (h : isName l = true) : kindI l = 2 ∧ plainI l = true ∧ baseI l = (l, true) ∧ kindI (l ++ [32]) = 0 ∧ kindI ([102, 110, 32] ++ l) = 0 ∧ kindI (l ++ [32] ++ l) = 0 ∧ kindI ([98, 111, 120, 32, 32] ++ l) = 0 := by
  have hg : goodB l = true := by unfold goodB; rw [h]; simp
  have hp := good_plain hg
  have hb := name_no_blank h
  have hk : kindI l = 2 := by
    rw [kind_plain hp, if_neg (name_not_word h (by decide)), good_not_front (by decide) hg]
    rfl
  have n1 := name_not_word h (w := [98, 111, 120]) (by decide)
  have n2 := name_not_word h (w := [114, 101, 102]) (by decide)
  have n3 := name_not_word h (w := [109, 117, 116]) (by decide)
  refine ⟨hk, hp, ?_, kind_blank hb n1 n2 n3, ?_, ?_, ?_⟩
  · unfold baseI
    rw [hk, if_neg (by omega), front_plain hp, good_strip hg]
  · exact kind_blank (l := [102, 110]) (r := l) (by decide) (by decide) (by decide) (by decide)
  · have := kind_blank (r := l) hb n1 n2 n3
    simpa using this
  · have hx : [98, 111, 120, 32, 32] ++ l = boxB ++ (32 :: l) := rfl
    have f1 : fronted boxB (32 :: l) = false := not_fronted (l := []) (p := [98, 111, 120]) (by simp) (by decide) (by decide)
    have hpl : plainI (boxB ++ (32 :: l)) = false := by
      rw [plain_box, strip_not f1]
      have : goodB (32 :: l) = false := by
        cases hgg : goodB (32 :: l) with
        | false => rfl
        | true => exact absurd (by simp) (good_no_blank hgg)
      simp [this]
    have hbf : fronted boxB (boxB ++ (32 :: l)) = true := (fronted_iff _ _).2 ⟨_, rfl⟩
    have f2 : fronted refB (boxB ++ (32 :: l)) = false := not_front_two hbf rfl (by decide)
    have f3 : fronted mutB (boxB ++ (32 :: l)) = false := not_front_two hbf rfl (by decide)
    rw [hx]
    unfold kindI frontI
    rw [f2, f3]
    simp [hpl]

theorem kind_one (l : Bs) : decide (kindI l = 1) = decide (l = intB) := by
  by_cases h : l = intB
  · have : kindI l = 1 := by rw [h]; decide +kernel
    simp [h, this]
    rw [← h]; exact this
  · have : kindI l ≠ 1 := by
      rcases kind_cases l with h1 | ⟨h1, h2⟩ | ⟨h1, _⟩ | ⟨h1, _⟩ | ⟨h1, _⟩ | ⟨h1, _⟩
      · omega
      · exact absurd h2 h
      all_goals omega
    simp [h, this]

/-! ### Made types -/
theorem kind_box (l : Bs) : kindI (boxB ++ l) = if plainI (boxB ++ l) then 3 else 0 := by
  have hbf : fronted boxB (boxB ++ l) = true := (fronted_iff _ _).2 ⟨_, rfl⟩
  have f2 : fronted refB (boxB ++ l) = false := not_front_two hbf rfl (by decide)
  have f3 : fronted mutB (boxB ++ l) = false := not_front_two hbf rfl (by decide)
  have hi : boxB ++ l ≠ intB := fun h => by have := congrArg List.head? h; simp [boxB, intB] at this
  unfold kindI frontI
  rw [f2, f3]
  simp only [Bool.false_eq_true, if_false, ne_eq, not_true_eq_false, hbf, if_true, if_neg hi]
  cases plainI (boxB ++ l) <;> rfl
theorem kind_ref (l : Bs) : kindI (refB ++ l) = if plainI l then 4 else 0 := by
  have hf : fronted refB (refB ++ l) = true := (fronted_iff _ _).2 ⟨_, rfl⟩
  have hd : (refB ++ l).drop 4 = l := rfl
  unfold kindI frontI
  rw [hf, if_pos rfl, hd]
  cases plainI l <;> simp
theorem kind_mut (l : Bs) : kindI (mutB ++ l) = if plainI l then 5 else 0 := by
  have hf : fronted mutB (mutB ++ l) = true := (fronted_iff _ _).2 ⟨_, rfl⟩
  have f2 : fronted refB (mutB ++ l) = false := not_front_two hf rfl (by decide)
  have hd : (mutB ++ l).drop 4 = l := rfl
  unfold kindI frontI
  rw [f2, hf]
  simp only [Bool.false_eq_true, if_false, if_true, hd]
  cases plainI l <;> rfl

theorem with_box (l : Bs) : withR [98, 111, 120] l = withI boxB l := by
  unfold withR withI
  rw [kind_box, plainR_is]
  cases hp : plainI l with
  | false => simp
  | true =>
    rw [plain_box]
    have h8 : (strip l).2 ≤ 8 ∧ goodB (strip l).1 = true := by unfold plainI at hp; simpa using hp
    by_cases h : (strip l).2 = 8
    · simp [h, h8.2]
    · have : (strip l).2 + 1 ≤ 8 := by omega
      simp [h, h8.2, this, boxB]
theorem with_ref (l : Bs) : withR [114, 101, 102] l = withI refB l := by
  unfold withR withI
  rw [kind_ref, plainR_is]
  cases hp : plainI l with
  | false => simp
  | true => simp [refB]
theorem with_mut (l : Bs) : withR [109, 117, 116] l = withI mutB l := by
  unfold withR withI
  rw [kind_mut, plainR_is]
  cases hp : plainI l with
  | false => simp
  | true => simp [mutB]

theorem made {w l : Bs} {k : Nat} (hw : (w = boxB ∧ k = 3) ∨ (w = refB ∧ k = 4) ∨ (w = mutB ∧ k = 5)) (h : (withI w l).2 = true) : (withI w l).1 = w ++ l ∧ kindI (w ++ l) = k ∧ elemI (w ++ l) = (l, true) := by
  have hk : kindI (w ++ l) ≠ 0 := by
    intro h0
    unfold withI at h
    rw [h0] at h
    simp at h
  have hk2 : kindI (w ++ l) = k := by
    rcases hw with ⟨rfl, rfl⟩ | ⟨rfl, rfl⟩ | ⟨rfl, rfl⟩
    · rw [kind_box] at hk ⊢; split at hk <;> simp_all
    · rw [kind_ref] at hk ⊢; split at hk <;> simp_all
    · rw [kind_mut] at hk ⊢; split at hk <;> simp_all
  have hp : plainI l = true := by
    cases hp : plainI l with
    | true => rfl
    | false => unfold withI at h; rw [hp] at h; simp at h
  refine ⟨?_, hk2, ?_⟩
  · unfold withI
    rw [hp]
    simp [hk]
  · unfold elemI
    rw [hk2, if_neg (by rcases hw with ⟨_, rfl⟩ | ⟨_, rfl⟩ | ⟨_, rfl⟩ <;> omega)]
    rcases hw with ⟨rfl, _⟩ | ⟨rfl, _⟩ | ⟨rfl, _⟩ <;> rfl

/-! ### Depth -/
def boxes : Nat → Bs → Bs
  | 0, l => l
  | n + 1, l => boxB ++ boxes n l
theorem strip_boxes : ∀ (n : Nat) (l : Bs), goodB l = true → strip (boxes n l) = (l, n)
  | 0, l, h => good_strip h
  | n + 1, l, h => by rw [boxes, strip_box, strip_boxes n l h]
theorem boxes_strip : ∀ (n : Nat) (l : Bs), l.length ≤ n → boxes (strip l).2 (strip l).1 = l := by
  intro n
  induction n with
  | zero =>
    intro l hl
    obtain rfl := List.eq_nil_of_length_eq_zero (show l.length = 0 by omega)
    simp [strip, boxes]
  | succ n ih =>
    intro l hl
    cases hb : fronted boxB l with
    | true =>
      obtain ⟨t, rfl⟩ := (fronted_iff _ _).1 hb
      rw [strip_box, boxes, ih t (by simp [boxB] at hl; omega)]
    | false => rw [strip_not hb]; rfl
theorem plain_boxes {n : Nat} {l : Bs} (h : goodB l = true) (hn : n ≤ 8) : plainI (boxes n l) = true := by
  unfold plainI
  rw [strip_boxes n l h]
  simp [hn, h]
theorem good_kind {l : Bs} (h : goodB l = true) : kindI l = 1 ∨ kindI l = 2 := by
  rw [kind_plain (good_plain h), good_not_front (by decide) h]
  split
  · exact Or.inl rfl
  · exact Or.inr rfl
theorem with_boxes {n : Nat} {l : Bs} (h : goodB l = true) (hn : n + 1 ≤ 8) : withI boxB (boxes n l) = (boxes (n + 1) l, true) := by
  have h1 := plain_boxes (n := n) h (by omega)
  have h2 : plainI (boxB ++ boxes n l) = true := plain_boxes (n := n + 1) h hn
  unfold withI
  rw [kind_box, h1, h2]
  rfl

/-- What a type is made of. -/
theorem kind_parts {l : Bs} (h : kindI l ≠ 0) : ∃ t : Bs, (baseI l).1 = (strip t).1 ∧ (baseI l).2 = true ∧ goodB (strip t).1 = true ∧ deepI l = (strip t).2 ∧ (strip t).2 ≤ 8 ∧ plainI t = true ∧
    ((l = t ∧ kindI l < 4) ∨ (l = refB ++ t ∧ kindI l = 4 ∧ plainI l = false) ∨ (l = mutB ++ t ∧ kindI l = 5 ∧ plainI l = false)) := by
  have key : ∀ t, plainI t = true → goodB (strip t).1 = true ∧ (strip t).2 ≤ 8 := fun t ht => by
    unfold plainI at ht
    simp at ht
    exact ⟨ht.2, ht.1⟩
  have plain : ∀ (hp : plainI l = true), kindI l < 4 → ∃ t : Bs, (baseI l).1 = (strip t).1 ∧ (baseI l).2 = true ∧ goodB (strip t).1 = true ∧ deepI l = (strip t).2 ∧ (strip t).2 ≤ 8 ∧ plainI t = true ∧
      ((l = t ∧ kindI l < 4) ∨ (l = refB ++ t ∧ kindI l = 4 ∧ plainI l = false) ∨ (l = mutB ++ t ∧ kindI l = 5 ∧ plainI l = false)) := fun hp h4 => by
    refine ⟨l, ?_, ?_, (key l hp).1, ?_, (key l hp).2, hp, Or.inl ⟨rfl, h4⟩⟩
    · unfold baseI; rw [if_neg h, front_plain hp]
    · unfold baseI; rw [if_neg h]
    · unfold deepI; rw [if_neg h, front_plain hp]
  rcases kind_cases l with h1 | ⟨h1, hl⟩ | ⟨h1, hn, hb, hp⟩ | ⟨h1, t, hl, hp⟩ | ⟨h1, t, rfl, hp⟩ | ⟨h1, t, rfl, hp⟩
  · exact absurd h1 h
  · exact plain (by rw [hl]; decide) (by omega)
  · exact plain hp (by omega)
  · exact plain hp (by omega)
  · have hf : frontI (refB ++ t) = (4, t) := by
      unfold frontI; rw [if_pos ((fronted_iff _ _).2 ⟨t, rfl⟩)]; rfl
    refine ⟨t, ?_, ?_, (key t hp).1, ?_, (key t hp).2, hp, Or.inr (Or.inl ⟨rfl, h1, plain_not_front (Or.inl rfl) ((fronted_iff _ _).2 ⟨t, rfl⟩)⟩)⟩
    · unfold baseI; rw [if_neg h, hf]
    · unfold baseI; rw [if_neg h]
    · unfold deepI; rw [if_neg h, hf]
  · have hm : fronted mutB (mutB ++ t) = true := (fronted_iff _ _).2 ⟨t, rfl⟩
    have hr : fronted refB (mutB ++ t) = false := not_front_two hm rfl (by decide)
    have hf : frontI (mutB ++ t) = (5, t) := by
      unfold frontI; rw [hr, hm]; rfl
    refine ⟨t, ?_, ?_, (key t hp).1, ?_, (key t hp).2, hp, Or.inr (Or.inr ⟨rfl, h1, plain_not_front (Or.inr rfl) hm⟩)⟩
    · unfold baseI; rw [if_neg h, hf]
    · unfold baseI; rw [if_neg h]
    · unfold deepI; rw [if_neg h, hf]
theorem with_ref_plain {t : Bs} (h : plainI t = true) : withI refB t = (refB ++ t, true) := by
  unfold withI
  rw [kind_ref, h]
  rfl
theorem with_mut_plain {t : Bs} (h : plainI t = true) : withI mutB t = (mutB ++ t, true) := by
  unfold withI
  rw [kind_mut, h]
  rfl
end Go.Proofs.YtfdbmpcfphlmoaaDoor
