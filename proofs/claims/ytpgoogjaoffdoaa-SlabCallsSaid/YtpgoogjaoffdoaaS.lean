/- A slab as plain data, what each of its calls makes of it, and how it lies in memory. -/
import Derived.Test.YtpgoogjaoffdoaaM
namespace Go.Proofs.Ytpgoogjaoffdoaa
set_option linter.unusedVariables false
set_option linter.unusedSimpArgs false
open Go.RowKit

structure Pl where
  sizes : List Nat
  cells : List (Int × Bool)
  freed : Bool
structure SS where
  room : Nat
  used : Nat
  live : Nat
  places : List Pl
  free : List Nat

def addrOf (i age slot : Nat) : Nat := 4611686018427387904 + age * 4294967296 + i * 4096 + slot
def lowMark : Nat := 4611686018427387904

/-- Place, slot, error number. -/
def SS.find (s : SS) (a : Nat) : Nat × Nat × Nat :=
  if a < lowMark then (0, 0, 12) else
  match s.places[(a - lowMark) % 4294967296 / 4096]? with
  | none => (0, 0, 12)
  | some p =>
    match p.sizes[(a - lowMark) / 4294967296]? with
    | none => (0, 0, 12)
    | some z => if z ≤ a % 4096 then (0, 0, 12)
      else if p.freed = true ∨ (a - lowMark) / 4294967296 + 1 < p.sizes.length then (0, 0, 14)
      else ((a - lowMark) % 4294967296 / 4096, a % 4096, 0)

def SS.upd (s : SS) (i : Nat) (f : Pl → Pl) : SS := { s with places := s.places.modify i f }

/-- The index of a new piece, and the slab behind that. -/
def SS.index (s : SS) : Nat × SS :=
  match s.free.getLast? with
  | some i => (i, { s with free := s.free.dropLast })
  | none => (s.places.length, { s with places := s.places ++ [⟨[], [], false⟩] })

def SS.get (s : SS) (n : Int) : (Nat × Nat) × SS :=
  if n < 1 ∨ 4095 < n then ((0, 11), s)
  else if (s.room : Int) < s.used + n then ((0, 13), s)
  else
    let i := s.index.1
    let s1 := s.index.2
    let s2 := s1.upd i fun p => { sizes := p.sizes ++ [n.toNat], cells := List.replicate n.toNat (0, false), freed := false }
    ((addrOf i ((s1.places[i]?.map fun p => p.sizes.length).getD 0) 0, 0), { s2 with used := s.used + n.toNat, live := s.live + 1 })

def SS.free1 (s : SS) (a : Nat) : Nat × SS :=
  match s.find a with
  | (i, k, e) =>
    if e ≠ 0 then (e, s) else if k ≠ 0 then (11, s) else
    (0, { s.upd i (fun p => { p with cells := [], freed := true }) with
            used := s.used - (s.places[i]?.map fun p => p.cells.length).getD 0, live := s.live - 1, free := s.free ++ [i] })

def SS.cellAt (s : SS) (i k : Nat) : Int × Bool := ((s.places[i]?).bind fun p => p.cells[k]?).getD (0, false)

def SS.load (s : SS) (a : Nat) : Int × Nat :=
  match s.find a with
  | (i, k, e) => if e ≠ 0 then (0, e) else if (s.cellAt i k).2 = false then (0, 15) else ((s.cellAt i k).1, 0)

def SS.set (s : SS) (a : Nat) (c : Int × Bool) : Nat × SS :=
  match s.find a with
  | (i, k, e) => if e ≠ 0 then (e, s) else (0, s.upd i fun p => { p with cells := p.cells.set k c })

def SS.lenAt (s : SS) (i : Nat) : Nat := ((s.places[i]?).map fun p => p.cells.length).getD 0
def SS.ageAt (s : SS) (i : Nat) : Nat := ((s.places[i]?).map fun p => p.sizes.length).getD 0 - 1

def SS.off (s : SS) (a : Nat) (n : Int) : Nat × Nat :=
  match s.find a with
  | (i, k, e) => if e ≠ 0 then (0, e) else if n < -(k : Int) ∨ (s.lenAt i : Int) - k ≤ n then (0, 11) else (addrOf i (s.ageAt i) ((k : Int) + n).toNat, 0)

def SS.size (s : SS) (a : Nat) : Nat × Nat :=
  match s.find a with
  | (i, _, e) => if e ≠ 0 then (0, e) else (s.lenAt i, 0)

/-- What always holds of a slab; 'N': how many pieces were got at most. -/
structure SS.WF (s : SS) (N : Nat) : Prop where
  bound : N < 1048576
  nplaces : s.places.length ≤ N
  nsizes : ∀ (i : Nat) (p : Pl), s.places[i]? = some p → p.sizes.length ≤ N
  small : ∀ (i : Nat) (p : Pl), s.places[i]? = some p → ∀ z ∈ p.sizes, 1 ≤ z ∧ z ≤ 4095
  cells : ∀ (i : Nat) (p : Pl), s.places[i]? = some p → p.cells.length = if p.freed = true then 0 else p.sizes.getLast?.getD 0
  has : ∀ (i : Nat) (p : Pl), s.places[i]? = some p → p.sizes ≠ []
  frees : s.free.Nodup
  freed : ∀ i, i ∈ s.free ↔ ∃ p : Pl, s.places[i]? = some p ∧ p.freed = true
  room : s.room ≤ 16384
  used : s.used = (s.places.map fun p => p.cells.length).sum
  live : s.live = (s.places.map fun p => if p.freed = true then 0 else 1).sum
  fits : s.used ≤ s.room

/-! ### In memory -/

inductive Rl where
  | base | plc | fre | siz (i : Nat) | cel (i : Nat)
  deriving DecidableEq

structure LP where
  pl : Pl
  gs : Option Nat
  cs : Nat
  gc : Option Nat
  cc : Nat

def LP.enc (q : LP) : List Value := [sv q.gs q.pl.sizes.length q.cs, sv q.gc q.pl.cells.length q.cc, .bool q.pl.freed]
def encN (l : List Nat) : List Value := l.map fun (n : Nat) => Value.int .i64 (n : Int)
def encC (l : List (Int × Bool)) : List Value := l.flatMap fun c => [.int .i64 c.1, .bool c.2]

structure Lo where
  gp : Option Nat
  cp : Nat
  gf : Option Nat
  cf : Nat
  Q : List LP

def baseCells (s : SS) (L : Lo) : Array Value := #[.int .i64 (s.room : Int), .int .i64 (s.used : Int), .int .i64 (s.live : Int), sv L.gp L.Q.length L.cp, sv L.gf s.free.length L.cf]

structure RepS (w : World) (b : Nat) (s : SS) (own : Nat → Option Rl) (L : Lo) : Prop where
  dom : ∀ k, own k ≠ none → k < w.heap.size
  base : w.heap[b]? = some (.cells (baseCells s L) 69 (0, 0))
  ob : own b = some .base
  pls : s.places = L.Q.map LP.pl
  plc : Sl w 86 3 L.gp L.Q.length L.cp (L.Q.flatMap LP.enc)
  op : ∀ g, L.gp = some g → own g = some .plc
  fre : Sl w 3 1 L.gf s.free.length L.cf (encN s.free)
  of : ∀ g, L.gf = some g → own g = some .fre
  siz : ∀ (i : Nat) (q : LP), L.Q[i]? = some q → Sl w 3 1 q.gs q.pl.sizes.length q.cs (encN q.pl.sizes)
  osz : ∀ (i : Nat) (q : LP), L.Q[i]? = some q → ∀ g, q.gs = some g → own g = some (.siz i)
  cel : ∀ (i : Nat) (q : LP), L.Q[i]? = some q → Sl w 89 2 q.gc q.pl.cells.length q.cc (encC q.pl.cells)
  oce : ∀ (i : Nat) (q : LP), L.Q[i]? = some q → ∀ g, q.gc = some g → own g = some (.cel i)

def Rep (w : World) (b : Nat) (s : SS) (own : Nat → Option Rl) : Prop := ∃ L, RepS w b s own L

def Dom {ρ : Type} (own : Nat → Option ρ) (k : Nat) : Prop := own k ≠ none

theorem RepS.keep {w w' : World} {b : Nat} {s : SS} {own : Nat → Option Rl} {L : Lo} (h : RepS w b s own L) (hs : w.heap.size ≤ w'.heap.size)
    (hk : ∀ k, own k ≠ none → w'.heap[k]? = w.heap[k]?) : RepS w' b s own L where
  dom k hh := Nat.lt_of_lt_of_le (h.dom k hh) hs
  base := (hk b (by rw [h.ob]; simp)).trans h.base
  ob := h.ob
  pls := h.pls
  plc := h.plc.keep fun g hg => hk g (by rw [h.op g hg]; simp)
  op := h.op
  fre := h.fre.keep fun g hg => hk g (by rw [h.of g hg]; simp)
  of := h.of
  siz i q hq := (h.siz i q hq).keep fun g hg => hk g (by rw [h.osz i q hq g hg]; simp)
  osz := h.osz
  cel i q hq := (h.cel i q hq).keep fun g hg => hk g (by rw [h.oce i q hq g hg]; simp)
  oce := h.oce

theorem Rep.keep {w w' : World} {b : Nat} {s : SS} {own : Nat → Option Rl} (h : Rep w b s own) (hs : w.heap.size ≤ w'.heap.size)
    (hk : ∀ k, own k ≠ none → w'.heap[k]? = w.heap[k]?) : Rep w' b s own := let ⟨L, h⟩ := h; ⟨L, h.keep hs hk⟩

/-! ### Rows of three and of two -/
theorem flat3_len (Q : List LP) : (Q.flatMap LP.enc).length = Q.length * 3 := by
  induction Q with
  | nil => rfl
  | cons q Q ih => simp [List.flatMap_cons, ih, LP.enc]; omega

theorem flat3_get (Q : List LP) : ∀ (i : Nat) (q : LP), Q[i]? = some q → ∀ j, j < 3 → (Q.flatMap LP.enc)[i * 3 + j]? = (LP.enc q)[j]? := by
  induction Q with
  | nil => intro i q h; simp at h
  | cons p Q ih =>
    intro i q h j hj
    cases i with
    | zero =>
      simp only [List.getElem?_cons_zero, Option.some.injEq] at h
      subst h
      rw [List.flatMap_cons, List.getElem?_append_left (by simp [LP.enc]; omega)]
      simp
    | succ i =>
      simp only [List.getElem?_cons_succ] at h
      rw [List.flatMap_cons, List.getElem?_append_right (by simp [LP.enc]; omega), ← ih i q h j hj]
      congr 1
      simp [LP.enc]
      omega

theorem flat3_set (Q : List LP) : ∀ (i : Nat) (q q' : LP), Q[i]? = some q → 
    (Q.set i q').flatMap LP.enc = ((((Q.flatMap LP.enc).set (i * 3) (sv q'.gs q'.pl.sizes.length q'.cs)).set (i * 3 + 1) (sv q'.gc q'.pl.cells.length q'.cc)).set (i * 3 + 2) (.bool q'.pl.freed)) := by
  induction Q with
  | nil => intro i q q' h; simp at h
  | cons p Q ih =>
    intro i q q' h
    cases i with
    | zero => simp [LP.enc]
    | succ i =>
      simp only [List.getElem?_cons_succ] at h
      rw [List.set_cons_succ, List.flatMap_cons, List.flatMap_cons, ih i q q' h, List.set_append_right _ _ (by simp [LP.enc]; omega), List.set_append_right _ _ (by simp [LP.enc]; omega), List.set_append_right _ _ (by simp [LP.enc]; omega)]
      simp only [LP.enc, List.length_cons, List.length_nil]
      rw [show (i + 1) * 3 - (0 + 1 + 1 + 1) = i * 3 by omega, show (i + 1) * 3 + 1 - (0 + 1 + 1 + 1) = i * 3 + 1 by omega, show (i + 1) * 3 + 2 - (0 + 1 + 1 + 1) = i * 3 + 2 by omega]

theorem encC_len (l : List (Int × Bool)) : (encC l).length = l.length * 2 := by
  unfold encC
  induction l with
  | nil => rfl
  | cons c l ih => simp [List.flatMap_cons, ih]; omega

theorem encC_get (l : List (Int × Bool)) : ∀ (i : Nat) (c : Int × Bool), l[i]? = some c → (encC l)[i * 2]? = some (.int .i64 c.1) ∧ (encC l)[i * 2 + 1]? = some (.bool c.2) := by
  unfold encC
  induction l with
  | nil => intro i c h; simp at h
  | cons p l ih =>
    intro i c h
    cases i with
    | zero =>
      simp only [List.getElem?_cons_zero, Option.some.injEq] at h
      subst h
      simp
    | succ i =>
      simp only [List.getElem?_cons_succ] at h
      have := ih i c h
      rw [List.flatMap_cons, List.getElem?_append_right (by simp; omega), List.getElem?_append_right (by simp; omega)]
      simp only [List.length_cons, List.length_nil]
      rw [show (i + 1) * 2 - (0 + 1 + 1) = i * 2 by omega, show (i + 1) * 2 + 1 - (0 + 1 + 1) = i * 2 + 1 by omega]
      exact this

theorem encC_set (l : List (Int × Bool)) : ∀ (i : Nat) (c : Int × Bool), i < l.length → encC (l.set i c) = ((encC l).set (i * 2) (.int .i64 c.1)).set (i * 2 + 1) (.bool c.2) := by
  unfold encC
  induction l with
  | nil => intro i c h; simp at h
  | cons p l ih =>
    intro i c h
    cases i with
    | zero => simp
    | succ i =>
      simp only [List.length_cons] at h
      rw [List.set_cons_succ, List.flatMap_cons, List.flatMap_cons, ih i c (by omega), List.set_append_right _ _ (by simp; omega), List.set_append_right _ _ (by simp; omega)]
      simp only [List.length_cons, List.length_nil]
      rw [show (i + 1) * 2 - (0 + 1 + 1) = i * 2 by omega, show (i + 1) * 2 + 1 - (0 + 1 + 1) = i * 2 + 1 by omega]

theorem encN_len (l : List Nat) : (encN l).length = l.length := by simp [encN]
theorem encN_get (l : List Nat) (i n : Nat) (h : l[i]? = some n) : (encN l)[i]? = some (.int .i64 (n : Int)) := by simp [encN, h]

end Go.Proofs.Ytpgoogjaoffdoaa
