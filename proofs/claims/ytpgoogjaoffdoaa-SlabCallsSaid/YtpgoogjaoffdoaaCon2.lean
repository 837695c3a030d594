/- Contracts over 'RepS' of slab's calls that turn the slab: set, Store, Blank, Free. -/
import Derived.Test.YtpgoogjaoffdoaaCon
namespace Go.Proofs.Ytpgoogjaoffdoaa
set_option linter.unusedVariables false
set_option linter.unusedSimpArgs false
open Go.RowKit

theorem RepS.upd {w : World} {b : Nat} {s : SS} {own : Nat → Option Rl} {L : Lo} (h : RepS w b s own L) {i : Nat} {q q' : LP} (hq : L.Q[i]? = some q)
    {w' : World} {s' : SS} {own' : Nat → Option Rl} {gf' : Option Nat} {cf' : Nat} (hsz : w.heap.size ≤ w'.heap.size)
    (hpl : s'.places = s.places.set i q'.pl)
    (hbase : w'.heap[b]? = some (.cells (baseCells s' { L with gf := gf', cf := cf', Q := L.Q.set i q' }) 69 (0, 0)))
    (hkeep : ∀ k r, own k = some r → r ≠ .base → r ≠ .plc → r ≠ .fre → r ≠ .siz i → r ≠ .cel i → w'.heap[k]? = w.heap[k]?)
    (hplc : Sl w' 86 3 L.gp L.Q.length L.cp ((L.Q.set i q').flatMap LP.enc))
    (hfre : Sl w' 3 1 gf' s'.free.length cf' (encN s'.free)) (hof : ∀ g, gf' = some g → own' g = some .fre)
    (hsiz : Sl w' 3 1 q'.gs q'.pl.sizes.length q'.cs (encN q'.pl.sizes)) (hos : ∀ g, q'.gs = some g → own' g = some (.siz i))
    (hcel : Sl w' 89 2 q'.gc q'.pl.cells.length q'.cc (encC q'.pl.cells)) (hoc : ∀ g, q'.gc = some g → own' g = some (.cel i))
    (hown : ∀ k, own k ≠ none → own' k = own k) (hdom : ∀ k, own' k ≠ none → own k ≠ none ∨ k < w'.heap.size) :
    RepS w' b s' own' { L with gf := gf', cf := cf', Q := L.Q.set i q' } where
  dom k hk := by
    rcases hdom k hk with h1 | h1
    · exact Nat.lt_of_lt_of_le (h.dom k h1) hsz
    · exact h1
  base := hbase
  ob := (hown b (by rw [h.ob]; simp)).trans h.ob
  pls := by rw [hpl, h.pls, List.map_set]
  plc := by simpa using hplc
  op g hg := (hown g (by rw [h.op g hg]; simp)).trans (h.op g hg)
  fre := hfre
  of := hof
  siz j p hp := by
    simp only [List.getElem?_set] at hp
    split at hp
    · rename_i e
      split at hp
      · simp only [Option.some.injEq] at hp; subst hp; exact hsiz
      · cases hp
    · rename_i e
      exact (h.siz j p hp).keep fun g hg => hkeep g _ (h.osz j p hp g hg) (by simp) (by simp) (by simp) (by simp; omega) (by simp)
  osz j p hp g hg := by
    simp only [List.getElem?_set] at hp
    split at hp
    · rename_i e
      split at hp
      · simp only [Option.some.injEq] at hp; subst hp; subst e; exact hos g hg
      · cases hp
    · exact (hown g (by rw [h.osz j p hp g hg]; simp)).trans (h.osz j p hp g hg)
  cel j p hp := by
    simp only [List.getElem?_set] at hp
    split at hp
    · rename_i e
      split at hp
      · simp only [Option.some.injEq] at hp; subst hp; exact hcel
      · cases hp
    · rename_i e
      exact (h.cel j p hp).keep fun g hg => hkeep g _ (h.oce j p hp g hg) (by simp) (by simp) (by simp) (by simp) (by simp; omega)
  oce j p hp g hg := by
    simp only [List.getElem?_set] at hp
    split at hp
    · rename_i e
      split at hp
      · simp only [Option.some.injEq] at hp; subst hp; subst e; exact hoc g hg
      · cases hp
    · exact (hown g (by rw [h.oce j p hp g hg]; simp)).trans (h.oce j p hp g hg)

/-- Behind a call: what it hands back as a number, the slab in memory, what it has taken, what is as it was. -/
def CallPost (w : World) (b : Nat) (own : Nat → Option Rl) (s' : SS) (w' : World) : Prop :=
  ∃ own', Rep w' b s' own' ∧ Ext own own' w ∧ Mod (Dom own) w w'

theorem modify_set {α : Type} (l : List α) (i : Nat) (f : α → α) (p : α) (h : l[i]? = some p) : l.modify i f = l.set i (f p) := by
  apply List.ext_getElem?
  intro j
  simp only [List.getElem?_modify, List.getElem?_set]
  by_cases e : i = j
  · subst e
    obtain ⟨h1, h2⟩ := List.getElem?_eq_some_iff.1 h
    simp [h1, h2]
  · simp [e]

theorem set_same {α : Type} (l : List α) (i : Nat) (x : α) (h : l[i]? = some x) : l.set i x = l := by
  apply List.ext_getElem?
  intro j
  simp only [List.getElem?_set]
  split
  · rename_i e
    subst e
    split
    · exact h.symm
    · rename_i hn
      exact absurd (List.getElem?_eq_some_iff.1 h).1 hn
  · rfl

section
variable {w : World} {b : Nat} {s : SS} {own : Nat → Option Rl} {L : Lo} {N : Nat}

/-- Two roles, two blocks. -/
theorem ne_of_role {g g' : Nat} {r r' : Rl} (h : own g = some r) (h' : own g' = some r') (hr : r ≠ r') : g ≠ g' := by
  rintro rfl
  rw [h] at h'
  exact hr (Option.some.inj h')

theorem set_calls (h : RepS w b s own L) (hW : s.WF N) (a : Nat) (ha : a < 18446744073709551616) (x : Int) (f : Bool) :
    Calls Try.prog 40 #[.pointer (some ⟨b, 0, none⟩), .int .u64 (a : Int), .agg #[.int .i64 x, .bool f]] w
      (SetPost fun e w' => e = ((s.set a (x, f)).1 : Int) ∧ Rep w' b (s.set a (x, f)).2 own ∧ Mod (Dom own) w w') := by
  have hal : RepS (w.alloc (.cells #[.int .i64 x, .bool f] 89)) b s own L := h.keep (by simp) fun k hk => Below.heap_alloc _ _ _ (h.dom k hk)
  unfold SS.set
  rcases s.find_cases a with ⟨e, he, hf⟩ | ⟨i, k, hf, _⟩
  · rw [hf]
    dsimp only
    rw [if_pos (by omega)]
    refine (set_err b a w x f 0 0 e (find_err hal hW ha hf he) he).mono fun r w' ⟨hr, hw⟩ => ⟨_, hr, rfl, ?_, ?_⟩
    · rw [hw]; exact ⟨L, hal⟩
    · rw [hw]; exact Mod.alloc _ _ _
  · obtain ⟨p, hp, hpf, hk, hc, h1, hN, hiN⟩ := SS.find_good hW hf
    obtain ⟨q, g, hq, hpq, hg, hgl, c0, c1, c2, hfz⟩ := h.place hp
    have hcel := h.cel i q hq
    rw [hpq] at hcel
    obtain ⟨gc, hgc⟩ := hcel.some_of (by omega)
    rw [hgc] at c1
    have hck := encC_get p.cells k _ (List.getElem?_eq_getElem hk)
    have hlen := encC_len p.cells
    have ogc := h.oce i q hq gc hgc
    rw [hf]
    dsimp only
    rw [if_neg (by omega)]
    refine (set_good b a w x f g i k gc p.cells.length q.cc _ _ (find_yes hal hW ha hf hg) hgl (hcel.lt hgc) c1 hk (hcel.cell hgc hck.1) (hcel.cell hgc hck.2) (hcel.frozen hgc _) (hcel.frozen hgc _)).mono fun r w' ⟨hr, hw⟩ => ⟨_, hr, rfl, ?_, ?_⟩
    · have hblk : ∀ j, j < w.heap.size → j ≠ gc → w'.heap[j]? = w.heap[j]? := fun j hj hne => by
        rw [hw, heap_drew, Below.heap_alloc _ _ _ (by simpa using hj), Below.heap_setCell _ _ _ _ hne, Below.heap_setCell _ _ _ _ hne]
      have hbase' := (hblk b (h.dom b (by rw [h.ob]; simp)) (ne_of_role h.ob ogc (by simp))).trans h.base
      have hne : ∀ k r, own k = some r → r ≠ .cel i → w'.heap[k]? = w.heap[k]? := fun j r hj hr =>
        hblk j (h.dom j (by rw [hj]; simp)) (ne_of_role hj ogc hr)
      refine ⟨{ L with gf := L.gf, cf := L.cf, Q := L.Q.set i { q with pl := { p with cells := p.cells.set k (x, f) } } }, h.upd hq ?_ ?_ ?_ ?_ ?_ ?_ h.of ?_ (h.osz i q hq) ?_ (h.oce i q hq) (fun _ _ => rfl) (fun _ hk => Or.inl hk)⟩
      · rw [hw]; simp [heap_drew]
      · simp only [SS.upd]
        rw [modify_set _ _ _ _ hp]
      · rw [hbase']
        simp [baseCells, SS.upd]
      · intro j r hj _ _ _ _ hr
        exact hne j r hj hr
      · have e : (L.Q.set i { q with pl := { p with cells := p.cells.set k (x, f) } }).flatMap LP.enc = L.Q.flatMap LP.enc := by
          rw [flat3_set L.Q i q _ hq]
          have e0 := flat3_get L.Q i q hq 0 (by omega)
          have e1 := flat3_get L.Q i q hq 1 (by omega)
          have e2 := flat3_get L.Q i q hq 2 (by omega)
          simp only [LP.enc, hpq, Nat.add_zero, List.getElem?_cons_zero, List.getElem?_cons_succ] at e0 e1 e2
          have s0 : (L.Q.flatMap LP.enc).set (i * 3) (sv q.gs p.sizes.length q.cs) = L.Q.flatMap LP.enc := set_same _ _ _ e0
          have s1 : (L.Q.flatMap LP.enc).set (i * 3 + 1) (sv q.gc p.cells.length q.cc) = L.Q.flatMap LP.enc := set_same _ _ _ e1
          have s2 : (L.Q.flatMap LP.enc).set (i * 3 + 2) (.bool p.freed) = L.Q.flatMap LP.enc := set_same _ _ _ e2
          simp only [List.length_set, s0, s1, s2]
        rw [e]
        exact h.plc.keep fun g' hg' => hne g' _ (h.op g' hg') (by simp)
      · exact h.fre.keep fun g' hg' => hne g' _ (h.of g' hg') (by simp)
      · have := (h.siz i q hq).keep fun g' hg' => hne g' _ (h.osz i q hq g' hg') (by simp)
        rw [hpq] at this
        exact this
      · have := (((hcel.set hgc (j := k * 2) (by omega) (.int .i64 x)).set hgc (j := k * 2 + 1) (by simp; omega) (.bool f)).alloc (.cells #[.int .i64 x, .bool f] 89)).drew
        rw [hw]
        simp only [List.length_set]
        rw [encC_set _ _ _ hk]
        exact this
    · rw [hw]
      have m1 := Mod.setCell (S := Dom own) w ⟨gc, k * 2, none⟩ (.int .i64 x) (show Dom own gc by unfold Dom; rw [ogc]; simp)
      have m2 := m1.trans (Mod.setCell (S := Dom own) _ ⟨gc, k * 2 + 1, none⟩ (.bool f) (show Dom own gc by unfold Dom; rw [ogc]; simp)) (fun _ h => Or.inl h)
      exact (m2.trans (Mod.alloc (Dom own) _ _) (fun _ h => Or.inl h)).trans (Mod.drew (Dom own) _) (fun _ h => Or.inl h)

theorem store_calls (h : RepS w b s own L) (hW : s.WF N) (a : Nat) (ha : a < 18446744073709551616) (x : Int) :
    Calls Try.prog 16 #[.pointer (some ⟨b, 0, none⟩), .int .u64 (a : Int), .int .i64 x] w
      (SetPost fun e w' => e = ((s.set a (x, true)).1 : Int) ∧ Rep w' b (s.set a (x, true)).2 own ∧ Mod (Dom own) w w') :=
  store_any b a w x _ (set_calls h hW a ha x true)
theorem blank_calls (h : RepS w b s own L) (hW : s.WF N) (a : Nat) (ha : a < 18446744073709551616) :
    Calls Try.prog 21 #[.pointer (some ⟨b, 0, none⟩), .int .u64 (a : Int)] w
      (SetPost fun e w' => e = ((s.set a (0, false)).1 : Int) ∧ Rep w' b (s.set a (0, false)).2 own ∧ Mod (Dom own) w w') :=
  blank_any b a w _ (set_calls h hW a ha 0 false)
end
end Go.Proofs.Ytpgoogjaoffdoaa
