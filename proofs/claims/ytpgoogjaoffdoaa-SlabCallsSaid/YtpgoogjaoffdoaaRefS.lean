/- The document's slab (all pieces that ever were, in a list) as plain data, what each of its calls makes of it, and how it lies in memory. -/
import Derived.Test.YtpgoogjaoffdoaaS
namespace Go.Proofs.Ytpgoogjaoffdoaa
set_option linter.unusedVariables false
set_option linter.unusedSimpArgs false
open Go.RowKit

structure RPc where
  idx : Nat
  age : Nat
  vals : List Int
  has : List Bool
  freed : Bool
structure RSS where
  room : Nat
  pcs : List RPc
  fre : List Nat
  next : Nat

def RPc.first (p : RPc) : Nat := addrOf p.idx p.age 0

/-- Piece, slot, error number. -/
def findIn (a : Nat) : List RPc → Nat → Nat × Nat × Nat
  | [], _ => (0, 0, 12)
  | p :: ps, i => if p.first ≤ a ∧ a < p.first + p.vals.length then (i, a - p.first, if p.freed = true then 14 else 0) else findIn a ps (i + 1)
def RSS.find (r : RSS) (a : Nat) : Nat × Nat × Nat := findIn a r.pcs 0

def RSS.used (r : RSS) : Nat := (r.pcs.map fun p => if p.freed = true then 0 else p.vals.length).sum
def RSS.live (r : RSS) : Nat := (r.pcs.map fun p => if p.freed = true then 0 else 1).sum

def RSS.get (r : RSS) (n : Int) : (Nat × Nat) × RSS :=
  if n < 1 ∨ 4095 < n then ((0, 11), r)
  else if (r.room : Int) < r.used + n then ((0, 13), r)
  else
    let i := r.fre.getLast?.getD r.next
    let age := (r.pcs.map fun p => if p.idx = i then 1 else 0).sum
    let p : RPc := ⟨i, age, List.replicate n.toNat 0, List.replicate n.toNat false, false⟩
    ((p.first, 0), { r with pcs := r.pcs ++ [p], fre := r.fre.dropLast, next := if r.fre = [] then r.next + 1 else r.next })

def RSS.upd (r : RSS) (i : Nat) (f : RPc → RPc) : RSS := { r with pcs := r.pcs.modify i f }
def RSS.free1 (r : RSS) (a : Nat) : Nat × RSS :=
  match r.find a with
  | (i, k, e) => if e ≠ 0 then (e, r) else if k ≠ 0 then (11, r) else
    (0, { r.upd i (fun p => { p with freed := true }) with fre := r.fre ++ [((r.pcs[i]?).map fun p => p.idx).getD 0] })
def RSS.load (r : RSS) (a : Nat) : Int × Nat :=
  match r.find a with
  | (i, k, e) => if e ≠ 0 then (0, e) else
    match r.pcs[i]? with
    | none => (0, 0)
    | some p => if p.has.getD k false = false then (0, 15) else (p.vals.getD k 0, 0)
def RSS.set (r : RSS) (a : Nat) (c : Int × Bool) : Nat × RSS :=
  match r.find a with
  | (i, k, e) => if e ≠ 0 then (e, r) else (0, r.upd i fun p => { p with vals := p.vals.set k c.1, has := p.has.set k c.2 })
def RSS.lenAt (r : RSS) (i : Nat) : Nat := ((r.pcs[i]?).map fun p => p.vals.length).getD 0
def RSS.off (r : RSS) (a : Nat) (n : Int) : Nat × Nat :=
  match r.find a with
  | (i, k, e) => if e ≠ 0 then (0, e) else if (k : Int) + n < 0 ∨ (r.lenAt i : Int) ≤ k + n then (0, 11) else
    (((r.pcs[i]?).map fun p => addrOf p.idx p.age ((k : Int) + n).toNat).getD 0, 0)
def RSS.size (r : RSS) (a : Nat) : Nat × Nat :=
  match r.find a with
  | (i, _, e) => if e ≠ 0 then (0, e) else (r.lenAt i, 0)
/-- The pieces that there are, by rising indexes. -/
def RSS.all (r : RSS) : List (Nat × Nat) :=
  (List.range r.next).flatMap fun i => (r.pcs.filter fun p => p.idx == i && !p.freed).map fun p => (p.first, p.vals.length)

/-! ### In memory -/
inductive Rr where
  | base | plc | fre | val (i : Nat) | has (i : Nat)
  deriving DecidableEq

structure RQ where
  pc : RPc
  gv : Option Nat
  cv : Nat
  gh : Option Nat
  ch : Nat

def RQ.enc (q : RQ) : List Value := [.int .i64 (q.pc.idx : Int), .int .i64 (q.pc.age : Int), sv q.gv q.pc.vals.length q.cv, sv q.gh q.pc.has.length q.ch, .bool q.pc.freed]
def encI (l : List Int) : List Value := l.map fun n => Value.int .i64 n
def encB (l : List Bool) : List Value := l.map fun b => Value.bool b

structure RLo where
  gp : Option Nat
  cp : Nat
  gf : Option Nat
  cf : Nat
  Q : List RQ

def rCells (r : RSS) (L : RLo) : Array Value := #[.int .i64 (r.room : Int), sv L.gp L.Q.length L.cp, sv L.gf r.fre.length L.cf, .int .i64 (r.next : Int)]

structure RRepS (w : World) (b : Nat) (r : RSS) (own : Nat → Option Rr) (L : RLo) : Prop where
  dom : ∀ k, own k ≠ none → k < w.heap.size
  base : w.heap[b]? = some (.cells (rCells r L) 72 (0, 0))
  ob : own b = some .base
  pcs : r.pcs = L.Q.map RQ.pc
  plc : Sl w 93 5 L.gp L.Q.length L.cp (L.Q.flatMap RQ.enc)
  op : ∀ g, L.gp = some g → own g = some .plc
  fre : Sl w 3 1 L.gf r.fre.length L.cf (encN r.fre)
  of : ∀ g, L.gf = some g → own g = some .fre
  val : ∀ (i : Nat) (q : RQ), L.Q[i]? = some q → Sl w 2 1 q.gv q.pc.vals.length q.cv (encI q.pc.vals)
  ov : ∀ (i : Nat) (q : RQ), L.Q[i]? = some q → ∀ g, q.gv = some g → own g = some (.val i)
  has : ∀ (i : Nat) (q : RQ), L.Q[i]? = some q → Sl w 4 1 q.gh q.pc.has.length q.ch (encB q.pc.has)
  oh : ∀ (i : Nat) (q : RQ), L.Q[i]? = some q → ∀ g, q.gh = some g → own g = some (.has i)

def RRep (w : World) (b : Nat) (r : RSS) (own : Nat → Option Rr) : Prop := ∃ L, RRepS w b r own L

theorem RRepS.keep {w w' : World} {b : Nat} {r : RSS} {own : Nat → Option Rr} {L : RLo} (h : RRepS w b r own L) (hs : w.heap.size ≤ w'.heap.size)
    (hk : ∀ k, own k ≠ none → w'.heap[k]? = w.heap[k]?) : RRepS w' b r own L where
  dom k hh := Nat.lt_of_lt_of_le (h.dom k hh) hs
  base := (hk b (by rw [h.ob]; simp)).trans h.base
  ob := h.ob
  pcs := h.pcs
  plc := h.plc.keep fun g hg => hk g (by rw [h.op g hg]; simp)
  op := h.op
  fre := h.fre.keep fun g hg => hk g (by rw [h.of g hg]; simp)
  of := h.of
  val i q hq := (h.val i q hq).keep fun g hg => hk g (by rw [h.ov i q hq g hg]; simp)
  ov := h.ov
  has i q hq := (h.has i q hq).keep fun g hg => hk g (by rw [h.oh i q hq g hg]; simp)
  oh := h.oh

theorem flat5_len (Q : List RQ) : (Q.flatMap RQ.enc).length = Q.length * 5 := by
  induction Q with
  | nil => rfl
  | cons q Q ih => simp [List.flatMap_cons, ih, RQ.enc]; omega

theorem flat5_get (Q : List RQ) : ∀ (i : Nat) (q : RQ), Q[i]? = some q → ∀ j, j < 5 → (Q.flatMap RQ.enc)[i * 5 + j]? = (RQ.enc q)[j]? := by
  induction Q with
  | nil => intro i q h; simp at h
  | cons p Q ih =>
    intro i q h j hj
    cases i with
    | zero =>
      simp only [List.getElem?_cons_zero, Option.some.injEq] at h
      subst h
      rw [List.flatMap_cons, List.getElem?_append_left (by simp [RQ.enc]; omega)]
      simp
    | succ i =>
      simp only [List.getElem?_cons_succ] at h
      rw [List.flatMap_cons, List.getElem?_append_right (by simp [RQ.enc]; omega), ← ih i q h j hj]
      congr 1
      simp [RQ.enc]
      omega
end Go.Proofs.Ytpgoogjaoffdoaa
