/- The walk of slab's Clone. -/
import Derived.Test.YtpgoogjaoffdoaaClone
namespace Go.Proofs.Ytpgoogjaoffdoaa
set_option linter.unusedVariables false
set_option linter.unusedSimpArgs false
open Go.RowKit

theorem encN_one (l : List Nat) : ∀ u ∈ encN l, u.oneCell' = true := by
  intro u hu
  obtain ⟨n, _, rfl⟩ := List.mem_map.1 hu
  rfl
theorem encC_one (l : List (Int × Bool)) : ∀ u ∈ encC l, u.oneCell' = true := by
  intro u hu
  obtain ⟨c, _, h⟩ := List.mem_flatMap.1 hu
  simp at h
  rcases h with rfl | rfl <;> rfl
theorem encP_one (l : List LP) : ∀ u ∈ l.flatMap LP.enc, u.oneCell' = true := by
  intro u hu
  obtain ⟨c, _, h⟩ := List.mem_flatMap.1 hu
  simp [LP.enc] at h
  rcases h with rfl | rfl | rfl <;> rfl

/-- What Clone's head leaves: a slab's five cells of its own; its rows of indexes and places copied; the places' own rows still those of the source. -/
def Head (w : World) (n : Nat) (nf : Nat) (v0 v1 v2 : Value) (fs ps : List Value) (wc : World) : Prop :=
  ∃ gf cf gp cp, wc.heap[w.heap.size]? = some (.cells #[v0, v1, v2, sv gp n cp, sv gf nf cf] 69 (0, 0)) ∧
    Sl wc 3 1 gf nf cf fs ∧ Sl wc 86 3 gp n cp ps ∧ (∀ g, gf = some g → w.heap.size < g) ∧ (∀ g, gp = some g → w.heap.size < g ∧ gf ≠ some g) ∧ Mod (fun _ => False) w wc

theorem head_of {w w1 w2 : World} {n nf : Nat} {v0 v1 v2 v3 v4 : Value} {fs ps : List Value} {gf gp : Option Nat} {cf cp : Nat}
    (h1 : Sl w1 3 1 gf nf cf fs) (f1' : ∀ g, gf = some g → (w.alloc (.cells #[v0, v1, v2, v3, v4] 69)).drew.heap.size ≤ g ∧ g < w1.heap.size) (m1 : Mod (fun _ => False) (w.alloc (.cells #[v0, v1, v2, v3, v4] 69)).drew w1)
    (h2 : Sl w2 86 3 gp n cp ps) (f2 : ∀ g, gp = some g → w1.heap.size ≤ g ∧ g < w2.heap.size) (m2 : Mod (fun _ => False) w1 w2) :
    Head w n nf v0 v1 v2 fs ps ((w2.setCell ⟨w.heap.size, 4, none⟩ (sv gf nf cf)).setCell ⟨w.heap.size, 3, none⟩ (sv gp n cp)) := by
  have hs1 := m1.size
  have hs2 := m2.size
  have f1 : ∀ g, gf = some g → w.heap.size + 1 ≤ g ∧ g < w1.heap.size := fun g hg => by simpa [heap_drew] using f1' g hg
  simp only [heap_drew, World.size_alloc] at hs1
  have hb : w2.heap[w.heap.size]? = some (.cells #[v0, v1, v2, v3, v4] 69 (0, 0)) := by
    rw [m2.block _ (by omega) (fun h => h), m1.block _ (by simp [heap_drew]) (fun h => h), heap_drew]
    exact heap_alloc_new w _
  have n1 : gf ≠ some w.heap.size := fun e => by have := f1 _ e; omega
  have n2 : gp ≠ some w.heap.size := fun e => by have := f2 _ e; omega
  refine ⟨gf, cf, gp, cp, ?_, ?_, ?_, fun g hg => by have := f1 g hg; omega, fun g hg => ⟨by have := f2 g hg; omega, fun e => by have := f2 g hg; have := f1 g e; omega⟩, ?_⟩
  · rw [heap_setCell_at (heap_setCell_at hb)]; simp
  · exact ((h1.keep fun g hg => m2.block g (by have := f1 g hg; omega) (fun h => h)).setCell _ _ n1).setCell _ _ n1
  · exact (h2.setCell _ _ n2).setCell _ _ n2
  · have e1 : Mod (fun _ => False) w w2 := (((Mod.alloc _ w _).trans (Mod.drew _ _) (fun _ h => Or.inl h)).trans m1 (fun _ h => Or.inl h)).trans m2 (fun _ h => Or.inl h)
    refine (e1.trans (Mod.setCell (S := fun k => k = w.heap.size) w2 _ _ rfl) (fun i hi => Or.inr (Nat.le_of_eq hi.symm))).trans (Mod.setCell (S := fun k => k = w.heap.size) _ _ _ rfl) (fun i hi => Or.inr (Nat.le_of_eq hi.symm))

theorem cell_behind {w w1 : World} {A : Obj} {a : Addr} {v : Value} (hM : Mod (fun _ => False) (w.alloc A).drew w1) (h : w.cell? a = some v) (ha : a.block < w.heap.size) : w1.cell? a = some v := by
  rw [World.cell?_of_block (hM.block a.block (by simp [heap_drew]; omega) (fun h => h))]
  exact (World.cell?_alloc_lt (w := w) (o := A) (a := a) ha).trans h
theorem cell_behind2 {w w1 : World} {a : Addr} {v : Value} (hM : Mod (fun _ => False) w w1) (h : w.cell? a = some v) : w1.cell? a = some v := by
  rw [World.cell?_of_block (hM.block a.block (World.block_lt_of_cell? w a h) (fun h => h))]
  exact h
theorem own_behind {w w1 w2 : World} {v0 v1 v2 v3 v4 : Value} {t : TypeId} (h1 : Mod (fun _ => False) (w.alloc (.cells #[v0, v1, v2, v3, v4] t)).drew w1) (h2 : Mod (fun _ => False) w1 w2) :
    w2.cell? ⟨w.heap.size, 3, none⟩ = some v3 ∧ w2.cell? ⟨w.heap.size, 4, none⟩ = some v4 ∧ w2.frozen? ⟨w.heap.size, 3, none⟩ = false ∧ w2.frozen? ⟨w.heap.size, 4, none⟩ = false := by
  have hs1 := h1.size
  simp only [heap_drew, World.size_alloc] at hs1
  have hb : w2.heap[w.heap.size]? = some (.cells #[v0, v1, v2, v3, v4] t (0, 0)) := by
    rw [h2.block _ (by omega) (fun h => h), h1.block _ (by simp [heap_drew]) (fun h => h), heap_drew]
    exact heap_alloc_new w _
  refine ⟨?_, ?_, ?_, ?_⟩ <;> simp [World.cell?, World.frozen?, hb]
theorem other_set {w : World} {a b : Addr} {v u : Value} (h : w.cell? a = some v) (hne : b.block ≠ a.block) : (w.setCell b u).cell? a = some v :=
  (World.cell?_setCell_other (w := w) (a := b) (b := a) (v := u) (fun e => hne (by rw [e]))).trans h
theorem keep_behind {w w1 : World} {A : Obj} {e size : Nat} {og : Option Nat} {n c : Nat} {xs : List Value} (h : Sl w e size og n c xs) (hM : Mod (fun _ => False) (w.alloc A).drew w1) : Sl w1 e size og n c xs :=
  (h.alloc A).drew.keep fun g hg => hM.block g ((h.alloc A).drew.lt hg) (fun h => h)

/-- The clone so far: the first k places have rows of their own. -/
structure CInv (w : World) (o nf : Nat) (v0 v1 v2 : Value) (fs : List Value) (QS : List LP) (gf : Option Nat) (cf : Nat) (gp : Option Nat) (cp : Nat) (k : Nat) (Q : List LP) (own : Nat → Option Rl) (wr : World) : Prop where
  base : wr.heap[o]? = some (.cells #[v0, v1, v2, sv gp QS.length cp, sv gf nf cf] 69 (0, 0))
  ob : own o = some .base
  fre : Sl wr 3 1 gf nf cf fs
  of : ∀ g, gf = some g → own g = some .fre
  plc : Sl wr 86 3 gp QS.length cp (Q.flatMap LP.enc)
  op : ∀ g, gp = some g → own g = some .plc
  pls : Q.map LP.pl = QS.map LP.pl
  rest : ∀ j, k ≤ j → Q[j]? = QS[j]?
  siz : ∀ (j : Nat) (q : LP), j < k → Q[j]? = some q → Sl wr 3 1 q.gs q.pl.sizes.length q.cs (encN q.pl.sizes)
  osz : ∀ (j : Nat) (q : LP), j < k → Q[j]? = some q → ∀ g, q.gs = some g → own g = some (.siz j)
  cel : ∀ (j : Nat) (q : LP), j < k → Q[j]? = some q → Sl wr 89 2 q.gc q.pl.cells.length q.cc (encC q.pl.cells)
  oce : ∀ (j : Nat) (q : LP), j < k → Q[j]? = some q → ∀ g, q.gc = some g → own g = some (.cel j)
  dom : ∀ x, own x ≠ none → w.heap.size ≤ x ∧ x < wr.heap.size
  mod : Mod (fun _ => False) w wr

def CI (w : World) (o nf : Nat) (v0 v1 v2 : Value) (fs : List Value) (QS : List LP) (gf : Option Nat) (cf : Nat) (gp : Option Nat) (cp : Nat) (k : Nat) (wr : World) : Prop :=
  ∃ Q own, CInv w o nf v0 v1 v2 fs QS gf cf gp cp k Q own wr

theorem cinv_step {w wr w1 w2 : World} {o nf : Nat} {v0 v1 v2 : Value} {fs : List Value} {QS Q : List LP} {gf gp : Option Nat} {cf cp k g : Nat} {own : Nat → Option Rl} (h : CInv w o nf v0 v1 v2 fs QS gf cf gp cp k Q own wr)
    {P : Obj} {q : LP} (hq : QS[k]? = some q) (hg : gp = some g) {g1 g2 : Option Nat} {e1 e2 : Nat}
    (h1 : Sl w1 3 1 g1 q.pl.sizes.length e1 (encN q.pl.sizes)) (f1' : ∀ x, g1 = some x → (wr.alloc P).drew.heap.size ≤ x ∧ x < w1.heap.size) (m1 : Mod (fun _ => False) (wr.alloc P).drew w1)
    (h2 : Sl w2 89 2 g2 q.pl.cells.length e2 (encC q.pl.cells)) (f2 : ∀ x, g2 = some x → w1.heap.size ≤ x ∧ x < w2.heap.size) (m2 : Mod (fun _ => False) w1 w2) :
    CI w o nf v0 v1 v2 fs QS gf cf gp cp (k + 1) ((w2.setCell ⟨g, k * 3, none⟩ (sv g1 q.pl.sizes.length e1)).setCell ⟨g, k * 3 + 1, none⟩ (sv g2 q.pl.cells.length e2)) := by
  have f1 : ∀ x, g1 = some x → wr.heap.size < x ∧ x < w1.heap.size := fun x hx => by have := f1' x hx; simp [heap_drew] at this; omega
  have hs1 := m1.size
  have hs2 := m2.size
  simp only [heap_drew, World.size_alloc] at hs1
  have hqk : Q[k]? = some q := (h.rest k (Nat.le_refl _)).trans hq
  have hkl := (List.getElem?_eq_some_iff.1 hqk).1
  have og := h.op g hg
  have hgd := h.dom g (by rw [og]; simp)
  have m12 : Mod (fun _ => False) wr w2 := (((Mod.alloc _ wr P).trans (Mod.drew _ _) (fun _ h => Or.inl h)).trans m1 (fun _ h => Or.inl h)).trans m2 (fun _ h => Or.inl h)
  let own' : Nat → Option Rl := fun x => if g1 = some x then some (.siz k) else if g2 = some x then some (.cel k) else own x
  have hnew : ∀ x, own x ≠ none → own' x = own x := fun x hx => by
    have h3 := h.dom x hx
    have a1 : g1 ≠ some x := fun e => by have := f1 x e; omega
    have a2 : g2 ≠ some x := fun e => by have := f2 x e; omega
    simp only [own', a1, a2, if_false]
  have hsame : ∀ x, x < wr.heap.size → x ≠ g → ((w2.setCell ⟨g, k * 3, none⟩ (sv g1 q.pl.sizes.length e1)).setCell ⟨g, k * 3 + 1, none⟩ (sv g2 q.pl.cells.length e2)).heap[x]? = wr.heap[x]? := fun x hx hne => by
    rw [Below.heap_setCell _ _ _ _ hne, Below.heap_setCell _ _ _ _ hne]
    exact m12.block x hx (fun h => h)
  have hrole : ∀ x r, own x = some r → r ≠ .plc → ((w2.setCell ⟨g, k * 3, none⟩ (sv g1 q.pl.sizes.length e1)).setCell ⟨g, k * 3 + 1, none⟩ (sv g2 q.pl.cells.length e2)).heap[x]? = wr.heap[x]? := fun x r hx hr =>
    hsame x (h.dom x (by rw [hx]; simp)).2 (ne_of_role hx og hr)
  have n1 : g1 ≠ some g := fun e => by have := f1 g e; omega
  have n2 : g2 ≠ some g := fun e => by have := f2 g e; omega
  have hlen := flat3_len Q
  refine ⟨Q.set k { q with gs := g1, cs := e1, gc := g2, cc := e2 }, own', ?_, ?_, ?_, ?_, ?_, ?_, ?_, ?_, ?_, ?_, ?_, ?_, ?_, ?_⟩
  · exact (hrole o _ h.ob (by simp)).trans h.base
  · exact (hnew o (by rw [h.ob]; simp)).trans h.ob
  · exact h.fre.keep fun x hx => hrole x _ (h.of x hx) (by simp)
  · exact fun x hx => (hnew x (by rw [h.of x hx]; simp)).trans (h.of x hx)
  · have hp2 := h.plc.keep fun x hx => m12.block x (h.plc.lt hx) (fun h => h)
    have hp3 := (hp2.set hg (j := k * 3) (by omega) (sv g1 q.pl.sizes.length e1)).set hg (j := k * 3 + 1) (by rw [List.length_set]; omega) (sv g2 q.pl.cells.length e2)
    rw [flat3_set Q k q _ hqk]
    have e2' := flat3_get Q k q hqk 2 (by omega)
    simp only [LP.enc, List.getElem?_cons_zero, List.getElem?_cons_succ] at e2'
    dsimp only
    rw [set_same (((Q.flatMap LP.enc).set (k * 3) (sv g1 q.pl.sizes.length e1)).set (k * 3 + 1) (sv g2 q.pl.cells.length e2)) (k * 3 + 2) (.bool q.pl.freed)
      (by rw [List.getElem?_set_ne (by omega), List.getElem?_set_ne (by omega)]; exact e2')]
    exact hp3
  · exact fun x hx => (hnew x (by rw [h.op x hx]; simp)).trans (h.op x hx)
  · rw [List.map_set, ← h.pls]
    exact set_same _ _ _ (by simp [hqk])
  · intro j hj
    rw [List.getElem?_set_ne (by omega)]
    exact h.rest j (by omega)
  · intro j p hj hp
    rw [List.getElem?_set] at hp
    by_cases e : k = j
    · rw [if_pos e, if_pos hkl] at hp
      obtain rfl := Option.some.inj hp
      exact ((h1.keep fun x hx => m2.block x (f1 x hx).2 (fun h => h)).setCell _ _ n1).setCell _ _ n1
    · rw [if_neg e] at hp
      exact (h.siz j p (by omega) hp).keep fun x hx => hrole x _ (h.osz j p (by omega) hp x hx) (by simp)
  · intro j p hj hp x hx
    rw [List.getElem?_set] at hp
    by_cases e : k = j
    · rw [if_pos e, if_pos hkl] at hp
      obtain rfl := Option.some.inj hp
      subst e
      show (if g1 = some x then _ else _) = _
      rw [if_pos hx]
    · rw [if_neg e] at hp
      have := h.osz j p (by omega) hp x hx
      exact (hnew x (by rw [this]; simp)).trans this
  · intro j p hj hp
    rw [List.getElem?_set] at hp
    by_cases e : k = j
    · rw [if_pos e, if_pos hkl] at hp
      obtain rfl := Option.some.inj hp
      exact (h2.setCell _ _ n2).setCell _ _ n2
    · rw [if_neg e] at hp
      exact (h.cel j p (by omega) hp).keep fun x hx => hrole x _ (h.oce j p (by omega) hp x hx) (by simp)
  · intro j p hj hp x hx
    rw [List.getElem?_set] at hp
    by_cases e : k = j
    · rw [if_pos e, if_pos hkl] at hp
      obtain rfl := Option.some.inj hp
      subst e
      have : g1 ≠ some x := fun e => by have := f1 x e; have := f2 x hx; omega
      show (if g1 = some x then _ else if g2 = some x then _ else _) = _
      rw [if_neg this, if_pos hx]
    · rw [if_neg e] at hp
      have := h.oce j p (by omega) hp x hx
      exact (hnew x (by rw [this]; simp)).trans this
  · intro x hx
    have hwm := h.mod.size
    simp only [World.size_setCell]
    by_cases a1 : g1 = some x
    · have := f1 x a1; omega
    · by_cases a2 : g2 = some x
      · have := f2 x a2; omega
      · have hx' : own x ≠ none := by simpa only [own', a1, a2, if_false] using hx
        have := h.dom x hx'; omega
  · exact ((h.mod.trans m12 (fun _ h => Or.inl h)).trans (Mod.setCell (S := fun x => x = g) w2 _ _ rfl) (fun i hi => Or.inr (by omega))).trans (Mod.setCell (S := fun x => x = g) _ _ _ rfl) (fun i hi => Or.inr (by omega))

theorem cinv_start {w wc : World} {nf : Nat} {v0 v1 v2 : Value} {fs : List Value} {QS : List LP} {gf gp : Option Nat} {cf cp : Nat}
    (hb : wc.heap[w.heap.size]? = some (.cells #[v0, v1, v2, sv gp QS.length cp, sv gf nf cf] 69 (0, 0))) (hF : Sl wc 3 1 gf nf cf fs) (hP : Sl wc 86 3 gp QS.length cp (QS.flatMap LP.enc))
    (h1 : ∀ g, gf = some g → w.heap.size < g) (h2 : ∀ g, gp = some g → w.heap.size < g ∧ gf ≠ some g) (hM : Mod (fun _ => False) w wc) : CI w w.heap.size nf v0 v1 v2 fs QS gf cf gp cp 0 wc := by
  have hl := (Array.getElem?_eq_some_iff.1 hb).1
  refine ⟨QS, fun x => if x = w.heap.size then some .base else if gf = some x then some .fre else if gp = some x then some .plc else none, hb, by simp, hF, ?_, hP, ?_, rfl, fun _ _ => rfl,
    fun j q hj => by omega, fun j q hj => by omega, fun j q hj => by omega, fun j q hj => by omega, ?_, hM⟩
  · intro g hg
    have := h1 g hg
    rw [if_neg (by omega), if_pos hg]
  · intro g hg
    have := h2 g hg
    rw [if_neg (by omega), if_neg this.2, if_pos hg]
  · intro x hx
    by_cases e : x = w.heap.size
    · omega
    · rw [if_neg e] at hx
      by_cases e1 : gf = some x
      · have := h1 x e1; have := hF.lt e1; omega
      · rw [if_neg e1] at hx
        by_cases e2 : gp = some x
        · have := (h2 x e2).1; have := hP.lt e2; omega
        · rw [if_neg e2] at hx
          exact absurd rfl hx

theorem src_keep {w wr : World} {e size : Nat} {og : Option Nat} {n c : Nat} {xs : List Value} (h : Sl w e size og n c xs) (hM : Mod (fun _ => False) w wr) : Sl wr e size og n c xs :=
  h.keep fun g hg => hM.block g (h.lt hg) (fun h => h)
theorem p_behind {w w1 : World} {v0 v1 v2 : Value} {t : TypeId} (hM : Mod (fun _ => False) (w.alloc (.cells #[v0, v1, v2] t)).drew w1) : w1.cell? ⟨w.heap.size, 0, none⟩ = some v0 ∧ w1.cell? ⟨w.heap.size, 1, none⟩ = some v1 := by
  have hb : w1.heap[w.heap.size]? = some (.cells #[v0, v1, v2] t (0, 0)) := by
    rw [hM.block _ (by simp [heap_drew]) (fun h => h), heap_drew]
    exact heap_alloc_new w _
  refine ⟨?_, ?_⟩ <;> simp [World.cell?, hb]
theorem row_frozen {w wr w1 w2 : World} {o nf : Nat} {v0 v1 v2 : Value} {fs : List Value} {QS Q : List LP} {gf : Option Nat} {cf cp k g : Nat} {own : Nat → Option Rl} {P : Obj}
    (h : CInv w o nf v0 v1 v2 fs QS gf cf (some g) cp k Q own wr) (h1 : Mod (fun _ => False) (wr.alloc P).drew w1) (h2 : Mod (fun _ => False) w1 w2) (j : Nat) : w2.frozen? ⟨g, j, none⟩ = false :=
  ((keep_behind h.plc h1).keep fun g hg => h2.block g ((keep_behind h.plc h1).lt hg) (fun h => h)).frozen rfl j

set_option maxRecDepth 100000 in
set_option maxHeartbeats 2000000 in
theorem clone_walk (b : Nat) (w : World) (room used live : Int) (gp : Option Nat) (cp : Nat) (gf : Option Nat) (nf cf : Nat) (fs : List Value) (QS : List LP)
    (hb : w.heap[b]? = some (.cells #[.int .i64 room, .int .i64 used, .int .i64 live, sv gp QS.length cp, sv gf nf cf] 69 (0, 0))) 
    (hF : Sl w 3 1 gf nf cf fs) (hP : Sl w 86 3 gp QS.length cp (QS.flatMap LP.enc)) (o1 : ∀ u ∈ fs, u.oneCell' = true) (hnf : nf ≤ 1048576) (hnp : QS.length ≤ 1048576)
    (hS : ∀ (j : Nat) (q : LP), QS[j]? = some q → Sl w 3 1 q.gs q.pl.sizes.length q.cs (encN q.pl.sizes) ∧ q.pl.sizes.length ≤ 1048576)
    (hC : ∀ (j : Nat) (q : LP), QS[j]? = some q → Sl w 89 2 q.gc q.pl.cells.length q.cc (encC q.pl.cells) ∧ q.pl.cells.length ≤ 1048576) :
    Calls Try.prog 13 #[.pointer (some ⟨b, 0, none⟩)] w fun e w' => e = .returned (.pointer (some ⟨w.heap.size, 0, none⟩)) ∧
      ∃ gp' cp' gf' cf', CI w w.heap.size nf (.int .i64 room) (.int .i64 used) (.int .i64 live) fs QS gf' cf' gp' cp' QS.length w' := by
  have hbl : b < w.heap.size := (Array.getElem?_eq_some_iff.1 hb).1
  have c0 : w.cell? ⟨b, 0, none⟩ = some (.int .i64 room) := by simp [World.cell?, hb]
  have c1 : w.cell? ⟨b, 1, none⟩ = some (.int .i64 used) := by simp [World.cell?, hb]
  have c2 : w.cell? ⟨b, 2, none⟩ = some (.int .i64 live) := by simp [World.cell?, hb]
  have c3 : w.cell? ⟨b, 3, none⟩ = some (.slice (gp.map fun g => ⟨g, 0, none⟩) QS.length cp) := by simp [World.cell?, hb, sv]
  have c4 : w.cell? ⟨b, 4, none⟩ = some (.slice (gf.map fun g => ⟨g, 0, none⟩) nf cf) := by simp [World.cell?, hb, sv]
  have HF : Hd _ := ⟨hF⟩
  have HP : Hd _ := ⟨hP⟩
  have HO1 : Hd _ := ⟨o1⟩
  have HB : Hd _ := ⟨hb⟩
  have HSZ : Hd _ := ⟨hS⟩
  have HCE : Hd _ := ⟨hC⟩
  clear hF hP o1 hb hS hC
  go_enter Try.func13, Try.ntmps13
  go_upto_region 2 with fail
  go_cut [] (fun wc => Head w QS.length nf (.int .i64 room) (.int .i64 used) (.int .i64 live) fs (QS.flatMap LP.enc) wc)
  case first =>
    have hbo : w.heap.size ≠ b := by omega
    go_region_held3 (fun w' => w'.cell? ⟨b, 3, none⟩ = some (.slice (gp.map fun g => ⟨g, 0, none⟩) QS.length cp) ∧ w'.cell? ⟨b, 4, none⟩ = some (.slice (gf.map fun g => ⟨g, 0, none⟩) nf cf))
      (first | go_keep | (with_reducible exact ⟨k3, k4⟩) | (with_reducible exact ⟨l3, l4⟩) | (with_reducible exact ⟨other_set l3 hbo, other_set l4 hbo⟩) | (with_reducible exact ⟨other_set (other_set l3 hbo) hbo, other_set (other_set l4 hbo) hbo⟩))
      (first
        | (go_at_call 35; refine (clone_int _ gf nf cf fs (HF.out.alloc _).drew HO1.out hnf).mono ?_; rintro e w1 ⟨g1, e1, rfl, hS1, hf1, hM1⟩; have k3 := cell_behind hM1 c3 (by omega); have k4 := cell_behind hM1 c4 (by omega); have X1 : Hd _ := ⟨And.intro hS1 (And.intro hf1 hM1)⟩; clear hS1 hf1 hM1; unfold sv)
        | (go_at_call 36; refine (clone_place _ gp QS.length cp (QS.flatMap LP.enc) (keep_behind HP.out X1.out.2.2) (encP_one QS) hnp).mono ?_; rintro e w2 ⟨g2, e2, rfl, hS2, hf2, hM2⟩; have l3 := cell_behind2 hM2 k3; have l4 := cell_behind2 hM2 k4; obtain ⟨s3, s4, z3, z4⟩ := own_behind X1.out.2.2 hM2; have X2 : Hd _ := ⟨And.intro hS2 (And.intro hf2 hM2)⟩; clear hS2 hf2 hM2; unfold sv))
    go_wp2_with fail
    go_meet
    case rel => exact head_of X1.out.1 X1.out.2.1 X1.out.2.2 X2.out.1 X2.out.2.1 X2.out.2.2
  case rest =>
    obtain ⟨gf', cf', gp', cp', hb', hF', hP', hf1, hf2, hM⟩ := hcut
    have d3 : wc.cell? ⟨w.heap.size, 3, none⟩ = some (.slice (gp'.map fun g => ⟨g, 0, none⟩) QS.length cp') := by simp [World.cell?, hb', sv]
    have HI : Hd (CI w w.heap.size nf (.int .i64 room) (.int .i64 used) (.int .i64 live) fs QS gf' cf' gp' cp' 0 wc) := ⟨cinv_start hb' hF' hP' hf1 hf2 hM⟩
    clear hb' hF' hP' hf1 hf2 hM c0 c1 c2 c3 c4
    go_wp2_with fail
    go_loopg [24] QS.length (fun gk v wr => ∃ k : Nat, v = .int .i64 k ∧ k + gk = QS.length ∧ Hd (CI w w.heap.size nf (.int .i64 room) (.int .i64 used) (.int .i64 live) fs QS gf' cf' gp' cp' k wr))
    case atStart => exact ⟨0, rfl, by omega, HI⟩
    case round =>
      clear HI d3
      obtain ⟨k, rfl, hk, ⟨Q, own, hI⟩⟩ := hrel
      by_cases hlt : k < QS.length
      · obtain ⟨q, hq⟩ : ∃ q, QS[k]? = some q := ⟨_, List.getElem?_eq_getElem hlt⟩
        have hqk : Q[k]? = some q := (hI.rest k (Nat.le_refl _)).trans hq
        obtain ⟨g, hg⟩ := hI.plc.some_of (by omega)
        have hcl := hI.plc.le
        have hcm := hI.plc.max
        unfold maxLen at hcm
        have p0 : wr.cell? ⟨g, k * 3, none⟩ = some (.slice (q.gs.map fun g => ⟨g, 0, none⟩) q.pl.sizes.length q.cs) := hI.plc.cell hg (by rw [← Nat.add_zero (k * 3), flat3_get Q k q hqk 0 (by omega)]; rfl)
        have p1 : wr.cell? ⟨g, k * 3 + 1, none⟩ = some (.slice (q.gc.map fun g => ⟨g, 0, none⟩) q.pl.cells.length q.cc) := hI.plc.cell hg (by rw [flat3_get Q k q hqk 1 (by omega)]; rfl)
        have p2 : wr.cell? ⟨g, k * 3 + 2, none⟩ = some (.bool q.pl.freed) := hI.plc.cell hg (by rw [flat3_get Q k q hqk 2 (by omega)]; rfl)
        have d3 : wr.cell? ⟨w.heap.size, 3, none⟩ = some (.slice (gp'.map fun g => ⟨g, 0, none⟩) QS.length cp') := by simp [World.cell?, hI.base, sv]
        have HI : Hd _ := ⟨hI⟩
        have HQ : Hd _ := ⟨hq⟩
        have HG : Hd _ := ⟨hg⟩
        subst hg
        have hob := (Array.getElem?_eq_some_iff.1 hI.base).1
        have hgl := hI.plc.lt rfl
        have hgo : g ≠ w.heap.size := (ne_of_role hI.ob (hI.op g rfl) (by simp)).symm
        have hgw : g ≠ wr.heap.size := by omega
        clear hI hq hqk HF HP HB
        simp only [Option.map_some] at d3
        go_upto_region 6 with fail
        go_region_held3 (fun w' => w'.cell? ⟨w.heap.size, 3, none⟩ = some (.slice (some ⟨g, 0, none⟩) QS.length cp') ∧ w'.cell? ⟨wr.heap.size, 0, none⟩ = some (.slice (q.gs.map fun g => ⟨g, 0, none⟩) q.pl.sizes.length q.cs) ∧ w'.cell? ⟨wr.heap.size, 1, none⟩ = some (.slice (q.gc.map fun g => ⟨g, 0, none⟩) q.pl.cells.length q.cc))
          (first | go_keep | (with_reducible exact ⟨k3, k4, k5⟩) | (with_reducible exact ⟨l3, l4, l5⟩) | (with_reducible exact ⟨other_set l3 hgo, other_set l4 hgw, other_set l5 hgw⟩) | (with_reducible exact ⟨other_set (other_set l3 hgo) hgo, other_set (other_set l4 hgw) hgw, other_set (other_set l5 hgw) hgw⟩))
          (first
            | (go_at_call 35; refine (clone_int _ q.gs q.pl.sizes.length q.cs (encN q.pl.sizes) ((src_keep (HSZ.out k q HQ.out).1 HI.out.mod).alloc _).drew (encN_one _) (HSZ.out k q HQ.out).2).mono ?_; rintro e w1 ⟨g1, e1, rfl, hS1, hf1, hM1⟩; have k3 := cell_behind hM1 d3 (by omega); obtain ⟨k4, k5⟩ := p_behind hM1; have X1 : Hd _ := ⟨And.intro hS1 (And.intro hf1 hM1)⟩; clear hS1 hf1 hM1; unfold sv)
            | (go_at_call 37; refine (clone_cell _ q.gc q.pl.cells.length q.cc (encC q.pl.cells) (keep_behind (src_keep (HCE.out k q HQ.out).1 HI.out.mod) X1.out.2.2) (encC_one _) (HCE.out k q HQ.out).2).mono ?_; rintro e w2 ⟨g2, e2, rfl, hS2, hf2, hM2⟩; have l3 := cell_behind2 hM2 k3; have l4 := cell_behind2 hM2 k4; have l5 := cell_behind2 hM2 k5; have s0 := cell_behind2 hM2 (cell_behind X1.out.2.2 p0 (by omega)); have s1 := cell_behind2 hM2 (cell_behind X1.out.2.2 p1 (by omega)); have z0 := row_frozen HI.out X1.out.2.2 hM2 (k * 3); have z1 := row_frozen HI.out X1.out.2.2 hM2 (k * 3 + 1); have X2 : Hd _ := ⟨And.intro hS2 (And.intro hf2 hM2)⟩; clear hS2 hf2 hM2; unfold sv))
        go_wp2_with fail
        go_roundg (gk - 1)
        case measure => omega
        case rel => exact ⟨k + 1, by go_num, by omega, ⟨cinv_step HI.out HQ.out rfl X1.out.1 X1.out.2.1 X1.out.2.2 X2.out.1 X2.out.2.1 X2.out.2.2⟩⟩
      · have HI : Hd _ := ⟨hI⟩
        clear hI HF HP HB
        go_wp2
        go_ret
        have : k = QS.length := by omega
        subst this
        exact ⟨rfl, gp', cp', gf', cf', Q, own, HI.out⟩
end Go.Proofs.Ytpgoogjaoffdoaa
