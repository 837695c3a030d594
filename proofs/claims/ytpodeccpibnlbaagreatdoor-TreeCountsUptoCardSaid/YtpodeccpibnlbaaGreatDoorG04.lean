/- Programs as data, and what it is that a value stands for one in memory. No program in sight. What tree's own functions answer, as plain functions on programs as data. No program in sight. Two rows side by side; a fresh row made of cells. No program in sight. Blocks laid one behind the other: where they lie. No program in sight. Elements of rows, by their cells; first indices. -/
import Derived.Test.YtpodeccpibnlbaaGreatDoorG03
import Derived.Laws.AppendOwn
namespace Go.Proofs.YtpodeccpibnlbaaGreatDoor
set_option linter.unusedVariables false
set_option linter.unusedSimpArgs false
open Go.RowKit

structure Pl where
  loc : ByteArray
  steps : List ByteArray
structure Vr where
  name : ByteArray
  type : ByteArray
structure Sct where
  pos : Int
  name : ByteArray
  safe : Bool
  hook : Bool
  fields : List Vr
structure Enm where
  pos : Int
  name : ByteArray
  variants : List Vr
structure Stm where
  pos : Int
  kind : Int
  dest : Pl
  n : Int
  name : ByteArray
  variant : ByteArray
  args : List Pl
structure Arm where
  variant : ByteArray
  loc : ByteArray
  block : ByteArray
structure Trm where
  pos : Int
  kind : Int
  dest : Pl
  name : ByteArray
  args : List Pl
  blocks : List ByteArray
  arms : List Arm
structure Blk where
  pos : Int
  name : ByteArray
  stmts : List Stm
  term : Trm
structure Fun where
  pos : Int
  name : ByteArray
  params : List Vr
  locals : List Vr
  result : ByteArray
  blocks : List Blk
structure Prg where
  structs : List Sct
  enums : List Enm
  funcs : List Fun

/-- A row in memory: len elements of n cells each, behind an address. -/
structure SR {α : Type} (S : Nat → Prop) (w : World) (n : Nat) (V : Value → α → Prop) (oa : Option Addr) (len cap : Nat) (l : List α) : Prop where
  hlen : len = l.length
  hbig : l.length ≤ 1048576
  hle : len ≤ cap
  hmax : cap ≤ maxLen
  at' : ∀ i x, l[i]? = some x → ∃ b o v, oa = some ⟨b, o, none⟩ ∧ S b ∧ b < w.heap.size ∧ (∀ k u, v.cells[k]? = some u → w.cell? ⟨b, o + (i * n + k), none⟩ = some u) ∧ V v x

/-- What is of S in w is of S' in w', as it was. -/
def Kp (S : Nat → Prop) (w : World) (S' : Nat → Prop) (w' : World) : Prop := ∀ b, S b → b < w.heap.size → S' b ∧ b < w'.heap.size ∧ w'.heap[b]? = w.heap[b]?

theorem Mod.kp {w w' : World} (h : Mod (fun _ => False) w w') (S : Nat → Prop) : Kp S w S w' := fun b hb hl => ⟨hb, Nat.lt_of_lt_of_le hl h.size, h.block b hl (fun h => h)⟩
theorem Kp.refl (S : Nat → Prop) (w : World) : Kp S w S w := fun b hb hl => ⟨hb, hl, rfl⟩
theorem Kp.trans {S S' S'' : Nat → Prop} {w w' w'' : World} (h : Kp S w S' w') (k : Kp S' w' S'' w'') : Kp S w S'' w'' := fun b hb hl => by
  obtain ⟨h1, h2, h3⟩ := h b hb hl
  obtain ⟨k1, k2, k3⟩ := k b h1 h2
  exact ⟨k1, k2, k3.trans h3⟩

section
variable {S S' : Nat → Prop} {w w' : World}
theorem SR.keep {α : Type} {n : Nat} {V V' : Value → α → Prop} {oa : Option Addr} {len cap : Nat} {l : List α} (h : SR S w n V oa len cap l) (hk : Kp S w S' w') (hV : ∀ v x, V v x → V' v x) : SR S' w' n V' oa len cap l :=
  ⟨h.hlen, h.hbig, h.hle, h.hmax, fun i x hi => by
    obtain ⟨b, o, v, h1, h2, h3, h4, h5⟩ := h.at' i x hi
    obtain ⟨k1, k2, k3⟩ := hk b h2 h3
    exact ⟨b, o, v, h1, k1, k2, fun k u hu => by rw [← h4 k u hu]; exact World.cell?_of_block k3, hV v x h5⟩⟩

def I64 (n : Int) : Prop := -9223372036854775808 ≤ n ∧ n ≤ 9223372036854775807
def Sm (s : ByteArray) : Prop := s.size ≤ 1048576

def strV (v : Value) (s : ByteArray) : Prop := v = .string s ∧ Sm s
abbrev Strs (S : Nat → Prop) (w : World) := SR S w 1 strV

def plV (S : Nat → Prop) (w : World) (v : Value) (p : Pl) : Prop := Sm p.loc ∧ ∃ oa len cap, v = .agg #[.string p.loc, .slice oa len cap] ∧ Strs S w oa len cap p.steps
def vrV (v : Value) (x : Vr) : Prop := v = .agg #[.string x.name, .string x.type] ∧ Sm x.name ∧ Sm x.type
def armV (v : Value) (x : Arm) : Prop := v = .agg #[.string x.variant, .string x.loc, .string x.block] ∧ Sm x.variant ∧ Sm x.loc ∧ Sm x.block
abbrev Pls (S : Nat → Prop) (w : World) := SR S w 2 (plV S w)
abbrev Vrs (S : Nat → Prop) (w : World) := SR S w 2 vrV
abbrev Arms (S : Nat → Prop) (w : World) := SR S w 3 armV
def sctV (S : Nat → Prop) (w : World) (v : Value) (x : Sct) : Prop := I64 x.pos ∧ Sm x.name ∧ ∃ oa len cap, v = .agg #[.int .i64 x.pos, .string x.name, .bool x.safe, .bool x.hook, .slice oa len cap] ∧ Vrs S w oa len cap x.fields
def enmV (S : Nat → Prop) (w : World) (v : Value) (x : Enm) : Prop := I64 x.pos ∧ Sm x.name ∧ ∃ oa len cap, v = .agg #[.int .i64 x.pos, .string x.name, .slice oa len cap] ∧ Vrs S w oa len cap x.variants
def stmV (S : Nat → Prop) (w : World) (v : Value) (x : Stm) : Prop := I64 x.pos ∧ I64 x.kind ∧ I64 x.n ∧ Sm x.name ∧ Sm x.variant ∧ Sm x.dest.loc ∧ ∃ ob lenb capb oa len cap,
  v = .agg #[.int .i64 x.pos, .int .i64 x.kind, .string x.dest.loc, .slice ob lenb capb, .int .i64 x.n, .string x.name, .string x.variant, .slice oa len cap] ∧ Strs S w ob lenb capb x.dest.steps ∧ Pls S w oa len cap x.args
def trmV (S : Nat → Prop) (w : World) (v : Value) (x : Trm) : Prop := I64 x.pos ∧ I64 x.kind ∧ Sm x.name ∧ Sm x.dest.loc ∧ ∃ ob lenb capb oa len cap oc lenc capc od lend capd,
  v = .agg #[.int .i64 x.pos, .int .i64 x.kind, .string x.dest.loc, .slice ob lenb capb, .string x.name, .slice oa len cap, .slice oc lenc capc, .slice od lend capd] ∧ Strs S w ob lenb capb x.dest.steps ∧ Pls S w oa len cap x.args ∧ Strs S w oc lenc capc x.blocks ∧ Arms S w od lend capd x.arms
abbrev Stms (S : Nat → Prop) (w : World) := SR S w 8 (stmV S w)
def trmA (x : Trm) (oa : Option Addr) (la ca : Nat) (ob : Option Addr) (lb cb : Nat) (oc : Option Addr) (lc cc : Nat) (od : Option Addr) (ld cd : Nat) : Value :=
  .agg #[.int .i64 x.pos, .int .i64 x.kind, .string x.dest.loc, .slice oa la ca, .string x.name, .slice ob lb cb, .slice oc lc cc, .slice od ld cd]
def blkV (S : Nat → Prop) (w : World) (v : Value) (x : Blk) : Prop := I64 x.pos ∧ Sm x.name ∧ ∃ oa len cap ob lb cb oc lc cc od ld cd oe le ce,
  v = .agg #[.int .i64 x.pos, .string x.name, .slice oa len cap, .int .i64 x.term.pos, .int .i64 x.term.kind, .string x.term.dest.loc, .slice ob lb cb, .string x.term.name, .slice oc lc cc, .slice od ld cd, .slice oe le ce] ∧
  Stms S w oa len cap x.stmts ∧ trmV S w (trmA x.term ob lb cb oc lc cc od ld cd oe le ce) x.term
abbrev Blks (S : Nat → Prop) (w : World) := SR S w 11 (blkV S w)
def funV (S : Nat → Prop) (w : World) (v : Value) (x : Fun) : Prop := I64 x.pos ∧ Sm x.name ∧ Sm x.result ∧ ∃ oa len cap ob lenb capb oc lenc capc,
  v = .agg #[.int .i64 x.pos, .string x.name, .slice oa len cap, .slice ob lenb capb, .string x.result, .slice oc lenc capc] ∧ Vrs S w oa len cap x.params ∧ Vrs S w ob lenb capb x.locals ∧ Blks S w oc lenc capc x.blocks
abbrev Scts (S : Nat → Prop) (w : World) := SR S w 5 (sctV S w)
abbrev Enms (S : Nat → Prop) (w : World) := SR S w 3 (enmV S w)
abbrev Funs (S : Nat → Prop) (w : World) := SR S w 6 (funV S w)
def prgV (S : Nat → Prop) (w : World) (v : Value) (x : Prg) : Prop := ∃ oa len cap ob lenb capb oc lenc capc,
  v = .agg #[.slice oa len cap, .slice ob lenb capb, .slice oc lenc capc] ∧ Scts S w oa len cap x.structs ∧ Enms S w ob lenb capb x.enums ∧ Funs S w oc lenc capc x.funcs

theorem plV.keep {v : Value} {x : Pl} (h : plV S w v x) (hk : Kp S w S' w') : plV S' w' v x := by
  obtain ⟨h1, oa, len, cap, e, h2⟩ := h
  exact ⟨h1, oa, len, cap, e, h2.keep hk fun _ _ h => h⟩
theorem sctV.keep {v : Value} {x : Sct} (h : sctV S w v x) (hk : Kp S w S' w') : sctV S' w' v x := by
  obtain ⟨h0, h1, oa, len, cap, e, h2⟩ := h
  exact ⟨h0, h1, oa, len, cap, e, h2.keep hk fun _ _ h => h⟩
theorem enmV.keep {v : Value} {x : Enm} (h : enmV S w v x) (hk : Kp S w S' w') : enmV S' w' v x := by
  obtain ⟨h0, h1, oa, len, cap, e, h2⟩ := h
  exact ⟨h0, h1, oa, len, cap, e, h2.keep hk fun _ _ h => h⟩
theorem stmV.keep {v : Value} {x : Stm} (h : stmV S w v x) (hk : Kp S w S' w') : stmV S' w' v x := by
  obtain ⟨h0, h1, h2, h3, h4, h5, ob, lenb, capb, oa, len, cap, e, k1, k2⟩ := h
  exact ⟨h0, h1, h2, h3, h4, h5, ob, lenb, capb, oa, len, cap, e, k1.keep hk fun _ _ h => h, k2.keep hk fun _ _ h => h.keep hk⟩
theorem trmV.keep {v : Value} {x : Trm} (h : trmV S w v x) (hk : Kp S w S' w') : trmV S' w' v x := by
  obtain ⟨h0, h1, h2, h3, ob, lenb, capb, oa, len, cap, oc, lenc, capc, od, lend, capd, e, k1, k2, k3, k4⟩ := h
  exact ⟨h0, h1, h2, h3, ob, lenb, capb, oa, len, cap, oc, lenc, capc, od, lend, capd, e, k1.keep hk fun _ _ h => h, k2.keep hk fun _ _ h => h.keep hk, k3.keep hk fun _ _ h => h, k4.keep hk fun _ _ h => h⟩
theorem blkV.keep {v : Value} {x : Blk} (h : blkV S w v x) (hk : Kp S w S' w') : blkV S' w' v x := by
  obtain ⟨h0, h1, oa, len, cap, ob, lb, cb, oc, lc, cc, od, ld, cd, oe, le, ce, e, k1, k2⟩ := h
  exact ⟨h0, h1, oa, len, cap, ob, lb, cb, oc, lc, cc, od, ld, cd, oe, le, ce, e, k1.keep hk fun _ _ h => h.keep hk, k2.keep hk⟩
theorem funV.keep {v : Value} {x : Fun} (h : funV S w v x) (hk : Kp S w S' w') : funV S' w' v x := by
  obtain ⟨h0, h1, h2, oa, len, cap, ob, lenb, capb, oc, lenc, capc, e, k1, k2, k3⟩ := h
  exact ⟨h0, h1, h2, oa, len, cap, ob, lenb, capb, oc, lenc, capc, e, k1.keep hk fun _ _ h => h, k2.keep hk fun _ _ h => h, k3.keep hk fun _ _ h => h.keep hk⟩
theorem prgV.keep {v : Value} {x : Prg} (h : prgV S w v x) (hk : Kp S w S' w') : prgV S' w' v x := by
  obtain ⟨oa, len, cap, ob, lenb, capb, oc, lenc, capc, e, k1, k2, k3⟩ := h
  exact ⟨oa, len, cap, ob, lenb, capb, oc, lenc, capc, e, k1.keep hk fun _ _ h => h.keep hk, k2.keep hk fun _ _ h => h.keep hk, k3.keep hk fun _ _ h => h.keep hk⟩

/-- In every world that came of w0 by new blocks alone the call answers r, and lays new blocks alone. -/
def Ans (N : Nat) (args : Array Value) (w0 : World) (r : Value) : Prop :=
  ∀ w, Mod (fun _ => False) w0 w → Calls Tryz.prog N args w fun e w' => e = .returned r ∧ Mod (fun _ => False) w w'

/-- Where the first one lies that is so; else -1. -/
def idxI {α : Type} (f : α → Bool) : List α → Int
  | [] => -1
  | x :: r => if f x then 0 else let k := idxI f r; if k < 0 then -1 else k + 1
end
end Go.Proofs.YtpodeccpibnlbaaGreatDoor
namespace Go.Proofs.YtpodeccpibnlbaaGreatDoor
set_option linter.unusedVariables false
set_option linter.unusedSimpArgs false

/-- An empty text. -/
def emp (s : ByteArray) : Bool := (lst s).isEmpty
theorem emp_t {s : ByteArray} (h : emp s = true) : s.toList.isEmpty = true ∧ s.toList = [] := by
  have h1 : s.data.toList = [] := by simpa [emp, lst] using h
  rw [ByteArray.toList_eq, h1]
  exact ⟨rfl, rfl⟩
theorem emp_f {s : ByteArray} (h : emp s = false) : s.toList.isEmpty = false ∧ ¬ s.toList = [] := by
  have h1 : ¬ s.data.toList = [] := by simpa [emp, lst] using h
  rw [ByteArray.toList_eq]
  exact ⟨by simpa using h1, h1⟩

def stepI (s : ByteArray) : Bool := decide (lst s = [42]) || isName (lst s)
def placeI (p : Pl) : Bool := isName (lst p.loc) && decide (p.steps.length ≤ 8) && p.steps.all stepI
def noneI (p : Pl) : Bool := emp p.loc && decide (p.steps.length = 0)

structure Shp where
  dest : Bool
  number : Bool
  name : Bool
  variant : Bool
  least : Nat
  most : Nat
  blocks : Nat
def stmtShapeI (k : Int) : Shp × Bool :=
  if k = 1 then (⟨true, true, false, false, 0, 0, 0⟩, true)
  else if k = 2 ∨ k = 3 ∨ k = 4 then (⟨true, false, false, false, 2, 2, 0⟩, true)
  else if k = 5 ∨ k = 6 ∨ k = 9 ∨ k = 10 then (⟨true, false, false, false, 1, 1, 0⟩, true)
  else if k = 7 then (⟨true, false, true, false, 0, 16, 0⟩, true)
  else if k = 8 then (⟨true, false, true, true, 0, 1, 0⟩, true)
  else if k = 11 then (⟨false, false, false, false, 1, 1, 0⟩, true)
  else (⟨false, false, false, false, 0, 0, 0⟩, false)
def termShapeI (k : Int) : Shp × Bool :=
  if k = 1 ∨ k = 4 then (⟨false, false, false, false, 0, 0, 1⟩, true)
  else if k = 2 then (⟨false, false, false, false, 1, 1, 2⟩, true)
  else if k = 3 ∨ k = 7 then (⟨false, false, false, false, 1, 1, 0⟩, true)
  else if k = 5 ∨ k = 6 then (⟨true, false, true, false, 0, 16, 1⟩, true)
  else (⟨false, false, false, false, 0, 0, 0⟩, false)
def namedI (s : ByteArray) (there : Bool) : Bool := if there then isName (lst s) else emp s
def fitsI (x : Shp) (p : Pl) (name : ByteArray) (args : List Pl) : Bool :=
  (if x.dest then placeI p else noneI p) && namedI name x.name && decide (x.least ≤ args.length) && decide (args.length ≤ x.most) && args.all placeI
def stmtI (s : Stm) : Bool :=
  (stmtShapeI s.kind).2 && (decide (s.n = 0) || (stmtShapeI s.kind).1.number && decide (-1099511627776 ≤ s.n) && decide (s.n ≤ 1099511627776)) && namedI s.variant (stmtShapeI s.kind).1.variant && fitsI (stmtShapeI s.kind).1 s.dest s.name s.args
def armI (a : Arm) : Bool := isName (lst a.variant) && isName (lst a.block) && (emp a.loc || isName (lst a.loc))
def termI (t : Trm) : Bool :=
  (termShapeI t.kind).2 && (if t.kind = 3 then decide (1 ≤ t.arms.length) && decide (t.arms.length ≤ 16) else decide (t.arms.length = 0)) && t.arms.all armI && decide (t.blocks.length = (termShapeI t.kind).1.blocks) && t.blocks.all (fun s => isName (lst s)) && fitsI (termShapeI t.kind).1 t.dest t.name t.args
def fieldI (v : Vr) : Bool := isName (lst v.name) && plainI (lst v.type)
def variantI (v : Vr) : Bool := isName (lst v.name) && (emp v.type || plainI (lst v.type))
def localI (v : Vr) : Bool := isName (lst v.name) && !decide (kindI (lst v.type) = 0)
def blockI (b : Blk) : Bool := isName (lst b.name) && decide (b.stmts.length ≤ 64) && b.stmts.all stmtI && termI b.term
def funcI (f : Fun) : Bool :=
  isName (lst f.name) && plainI (lst f.result) && (decide (f.params.length ≤ 16) && decide (f.params.length + f.locals.length ≤ 24) && f.params.all localI && f.locals.all localI) &&
    decide (1 ≤ f.blocks.length) && decide (f.blocks.length ≤ 64) && f.blocks.all blockI
def structI (s : Sct) : Bool := isName (lst s.name) && decide (s.fields.length ≤ 16) && s.fields.all fieldI
def enumI (e : Enm) : Bool := isName (lst e.name) && decide (1 ≤ e.variants.length) && decide (e.variants.length ≤ 16) && e.variants.all variantI
def rightI (p : Prg) : Bool :=
  decide (p.structs.length ≤ 16) && decide (p.enums.length ≤ 16) && decide (p.funcs.length ≤ 16) && p.structs.all structI && p.enums.all enumI && p.funcs.all funcI
end Go.Proofs.YtpodeccpibnlbaaGreatDoor
namespace Go.Proofs.YtpodeccpibnlbaaGreatDoor
set_option linter.unusedVariables false
set_option linter.unusedSimpArgs false
open Go.RowKit

/-- Two rows are as long as one another, and side by side all are so. -/
def allZ {α β : Type} (f : α → β → Bool) : List α → List β → Bool
  | [], [] => true
  | x :: r, y :: s => f x y && allZ f r s
  | _, _ => false
theorem allZ_len {α β : Type} (f : α → β → Bool) : ∀ (l : List α) (m : List β), l.length ≠ m.length → allZ f l m = false
  | [], [], h => absurd rfl h
  | [], _ :: _, _ => rfl
  | _ :: _, [], _ => rfl
  | x :: r, y :: s, h => by
    rw [allZ, allZ_len f r s (by simpa using h), Bool.and_false]
theorem drop_cons {α : Type} {l : List α} {k : Nat} {x : α} (h : l[k]? = some x) : l.drop k = x :: l.drop (k + 1) := by
  obtain ⟨hk, rfl⟩ := List.getElem?_eq_some_iff.1 h
  rw [List.drop_eq_getElem_cons hk]
theorem allZ_hit {α β : Type} {f : α → β → Bool} {l : List α} {m : List β} {k : Nat} {x : α} {y : β} (hx : l[k]? = some x) (hy : m[k]? = some y) (hf : f x y = true) :
    allZ f (l.drop k) (m.drop k) = allZ f (l.drop (k + 1)) (m.drop (k + 1)) := by
  rw [drop_cons hx, drop_cons hy, allZ, hf, Bool.true_and]
theorem allZ_miss {α β : Type} {f : α → β → Bool} {l : List α} {m : List β} {k : Nat} {x : α} {y : β} (hx : l[k]? = some x) (hy : m[k]? = some y) (hf : f x y = false) :
    allZ f (l.drop k) (m.drop k) = false := by
  rw [drop_cons hx, drop_cons hy, allZ, hf, Bool.false_and]
theorem allZ_end {α β : Type} {f : α → β → Bool} {l : List α} {m : List β} {k : Nat} (h : l.length ≤ k) (h2 : m.length ≤ k) : allZ f (l.drop k) (m.drop k) = true := by
  rw [List.drop_eq_nil_of_le h, List.drop_eq_nil_of_le h2, allZ]
theorem all_hit {α : Type} {f : α → Bool} {l : List α} {k : Nat} {x : α} (hx : l[k]? = some x) (hf : f x = true) : (l.drop k).all f = (l.drop (k + 1)).all f := by
  rw [drop_cons hx, List.all_cons, hf, Bool.true_and]
theorem all_miss {α : Type} {f : α → Bool} {l : List α} {k : Nat} {x : α} (hx : l[k]? = some x) (hf : f x = false) : (l.drop k).all f = false := by
  rw [drop_cons hx, List.all_cons, hf, Bool.false_and]
theorem all_end {α : Type} {f : α → Bool} {l : List α} {k : Nat} (h : l.length ≤ k) : (l.drop k).all f = true := by
  rw [List.drop_eq_nil_of_le h]; rfl

/-- Two texts are the same. -/
def eqB (s t : ByteArray) : Bool := s.toList == t.toList
theorem eqB_iff (s t : ByteArray) : eqB s t = true ↔ s = t := by
  unfold eqB
  rw [beq_iff_eq, ByteArray.toList_eq, ByteArray.toList_eq]
  constructor
  · intro h
    cases s; cases t
    congr 1
    exact Array.ext' h
  · rintro rfl; rfl
theorem eqB_self (s : ByteArray) : eqB s s = true := (eqB_iff s s).2 rfl

def equalP (p q : Pl) : Bool := eqB p.loc q.loc && allZ eqB p.steps q.steps
def frontP (p q : Pl) : Bool := eqB p.loc q.loc && decide (p.steps.length ≤ q.steps.length) && allZ eqB p.steps (q.steps.take p.steps.length)
def vrEqI (x y : Vr) : Bool := eqB x.name y.name && eqB x.type y.type
def armEqI (x y : Arm) : Bool := eqB x.variant y.variant && (eqB x.loc y.loc && eqB x.block y.block)
def stmEqI (a b : Stm) : Bool := decide (a.kind = b.kind) && decide (a.n = b.n) && eqB a.name b.name && eqB a.variant b.variant && equalP a.dest b.dest && allZ equalP a.args b.args
def trmEqI (a b : Trm) : Bool := decide (a.kind = b.kind) && eqB a.name b.name && equalP a.dest b.dest && allZ equalP a.args b.args && allZ eqB a.blocks b.blocks && allZ armEqI a.arms b.arms
def blkEqI (a b : Blk) : Bool := eqB a.name b.name && allZ stmEqI a.stmts b.stmts && trmEqI a.term b.term
def funEqI (a b : Fun) : Bool := eqB a.name b.name && eqB a.result b.result && allZ vrEqI a.params b.params && allZ vrEqI a.locals b.locals && allZ blkEqI a.blocks b.blocks
def sctEqI (a b : Sct) : Bool := eqB a.name b.name && (a.safe == b.safe) && (a.hook == b.hook) && allZ vrEqI a.fields b.fields
def enmEqI (a b : Enm) : Bool := eqB a.name b.name && allZ vrEqI a.variants b.variants
def sameI (a b : Prg) : Bool := allZ sctEqI a.structs b.structs && allZ enmEqI a.enums b.enums && allZ funEqI a.funcs b.funcs

section
variable {S : Nat → Prop} {w : World} {α : Type}
/-- The cells of a row in memory. -/
theorem SR.news {n : Nat} {V : Value → α → Prop} {oa : Option Addr} {len cap : Nat} {l : List α} (h : SR S w n V oa len cap l) {b o : Nat} (hoa : oa = some ⟨b, o, none⟩)
    (hn : ∀ v x, V v x → v.cells.size = n ∧ ∀ u ∈ v.cells, u.oneCell' = true) :
    ∃ news : List Value, news.length = len * n ∧ (∀ j u, news[j]? = some u → w.cell? ⟨b, o + j, none⟩ = some u) ∧ (∀ u ∈ news, u.oneCell' = true) ∧
      ∀ i x, l[i]? = some x → ∃ v, V v x ∧ ∀ k u, v.cells[k]? = some u → news[i * n + k]? = some u := by
  have key : ∀ i x, l[i]? = some x → ∃ v, V v x ∧ v.cells.size = n ∧ (∀ u ∈ v.cells, u.oneCell' = true) ∧ ∀ k u, v.cells[k]? = some u → w.cell? ⟨b, o + (i * n + k), none⟩ = some u := by
    intro i x hi
    obtain ⟨b', o', v, h1, h2, h3, h4, h5⟩ := h.at' i x hi
    rw [hoa] at h1
    simp only [Option.some.injEq, Addr.mk.injEq] at h1
    obtain ⟨rfl, rfl, _⟩ := h1
    exact ⟨v, h5, (hn v x h5).1, (hn v x h5).2, h4⟩
  have hlen := h.hlen
  clear h hn
  subst hlen
  have step : ∀ m, m ≤ l.length → ∃ news : List Value, news.length = m * n ∧ (∀ j u, news[j]? = some u → w.cell? ⟨b, o + j, none⟩ = some u) ∧ (∀ u ∈ news, u.oneCell' = true) ∧
      ∀ i x, i < m → l[i]? = some x → ∃ v, V v x ∧ ∀ k u, v.cells[k]? = some u → news[i * n + k]? = some u := by
    intro m
    induction m with
    | zero => exact fun _ => ⟨[], by simp, fun j u hu => by simp at hu, fun u hu => by simp at hu, fun i x hi => by omega⟩
    | succ m ih =>
      intro hm
      obtain ⟨news, g1, g2, g3, g4⟩ := ih (by omega)
      obtain ⟨x, hx⟩ : ∃ x, l[m]? = some x := ⟨_, List.getElem?_eq_getElem (by omega)⟩
      obtain ⟨v, k1, k2, k3, k4⟩ := key m x hx
      refine ⟨news ++ v.cells.toList, by simp [g1, k2, Nat.add_mul], ?_, ?_, ?_⟩
      · intro j u hj
        by_cases hlt : j < news.length
        · rw [List.getElem?_append_left hlt] at hj
          exact g2 j u hj
        · rw [List.getElem?_append_right (by omega)] at hj
          have := k4 (j - news.length) u (by simpa using hj)
          rw [← this, g1]
          congr 2
          rw [g1] at hlt
          omega
      · intro u hu
        rcases List.mem_append.1 hu with h | h
        · exact g3 u h
        · exact k3 u (by simpa using h)
      · intro i y him hi
        by_cases hlt : i < m
        · obtain ⟨v', m1, m2⟩ := g4 i y hlt hi
          refine ⟨v', m1, fun k u hu => ?_⟩
          have := m2 k u hu
          rw [List.getElem?_append_left (List.getElem?_eq_some_iff.1 this).1]
          exact this
        · have : i = m := by omega
          subst this
          rw [hx] at hi
          cases hi
          refine ⟨v, k1, fun k u hu => ?_⟩
          rw [List.getElem?_append_right (by rw [g1]; omega), g1, show i * n + k - i * n = k by omega]
          simpa using hu
  obtain ⟨news, g1, g2, g3, g4⟩ := step l.length (Nat.le_refl _)
  exact ⟨news, g1, g2, g3, fun i x hi => g4 i x (List.getElem?_eq_some_iff.1 hi).1 hi⟩

theorem SR.nil_of {n : Nat} {V : Value → α → Prop} {oa : Option Addr} {len cap : Nat} {l : List α} (h : SR S w n V oa len cap l) (hn : oa = none) : l = [] := by
  cases l with
  | nil => rfl
  | cons x r =>
    obtain ⟨b, o, v, h1, _⟩ := h.at' 0 x rfl
    rw [hn] at h1
    cases h1
theorem SR.newsA {n : Nat} {V : Value → α → Prop} {a : Addr} {len cap : Nat} {l : List α} (h : SR S w n V (some a) len cap l)
    (hn : ∀ v x, V v x → v.cells.size = n ∧ ∀ u ∈ v.cells, u.oneCell' = true) :
    ∃ news : List Value, news.length = len * n ∧ (∀ j u, news[j]? = some u → w.cell? (a.add j) = some u) ∧ (∀ u ∈ news, u.oneCell' = true) ∧
      ∀ i x, l[i]? = some x → ∃ v, V v x ∧ ∀ k u, v.cells[k]? = some u → news[i * n + k]? = some u := by
  cases l with
  | nil =>
    have := h.hlen
    subst this
    exact ⟨[], by simp, fun j u hu => by simp at hu, fun u hu => by simp at hu, fun i x hi => by simp at hi⟩
  | cons x r =>
    obtain ⟨b, o, v, h1, _⟩ := h.at' 0 x rfl
    cases h1
    obtain ⟨news, g1, g2, g3, g4⟩ := h.news rfl hn
    exact ⟨news, g1, fun j u hj => by rw [Addr.add_lit]; exact g2 j u hj, g3, g4⟩

/-- Block b is B or behind it, and is a row of cells none of which is frozen. -/
def Nb (B : Nat) (w : World) (b : Nat) : Prop := B ≤ b ∧ ∃ cur e, w.heap[b]? = some (.cells cur e (0, 0))
/-- A call's own row in memory, with its spare places. -/
def Rw (B : Nat) (w : World) (e : TypeId) (n : Nat) (oa : Option Addr) (cap : Nat) : Prop := oa = none ∧ cap = 0 ∨ ∃ g cur, oa = some ⟨g, 0, none⟩ ∧ B ≤ g ∧ w.heap[g]? = some (.cells cur e (0, 0)) ∧ cap * n = cur.size
/-- What a call's own row is, as a row of elements. -/
theorem SR.of_owns {base : Nat} {e : TypeId} {n : Nat} {v' : Value} {l : List α} {V : Value → α → Prop} {news : List Value} (h : w.ownsRow base e n v' l.length news) (hb : l.length ≤ 1048576)
    (hx : ∀ i x, l[i]? = some x → ∃ v, V v x ∧ ∀ k u, v.cells[k]? = some u → news[i * n + k]? = some u) (hnn : v' ≠ .slice none 0 0 ∨ l = []) :
    ∃ oa cap, v' = .slice oa l.length cap ∧ SR (fun b => base ≤ b) w n V oa l.length cap l ∧
      (oa = none ∧ l = [] ∨ ∃ g cur, oa = some ⟨g, 0, none⟩ ∧ base ≤ g ∧ w.heap[g]? = some (.cells cur e (0, 0)) ∧ l.length * n ≤ cur.size) := by
  obtain ⟨h1, h2⟩ := h
  rcases h2 with ⟨rfl, h2⟩ | ⟨g, cap, cur, rfl, k1, k2, k3, k4, k5, k6⟩
  · have hl : l = [] := List.eq_nil_of_length_eq_zero h2
    subst hl
    exact ⟨none, 0, rfl, ⟨rfl, by simp, by simp, by simp [maxLen], fun i x hi => by simp at hi⟩, .inl ⟨rfl, rfl⟩⟩
  · refine ⟨_, cap, rfl, ⟨rfl, hb, k3, k4, fun i x hi => ?_⟩, .inr ⟨g, cur, rfl, k1, k2, by rw [k5]; exact Nat.mul_le_mul_right _ k3⟩⟩
    obtain ⟨v, m1, m2⟩ := hx i x hi
    refine ⟨g, 0, v, rfl, k1, (Array.getElem?_eq_some_iff.1 k2).1, fun k u hu => ?_, m1⟩
    have h3 := m2 k u hu
    rw [← k6, List.getElem?_take] at h3
    split at h3
    · simp only [World.cell?, k2, Nat.zero_add]
      simpa using h3
    · cases h3
/-- As SR.of_owns; and it says that no cell of it is frozen, and what room there is. -/
theorem SR.of_ownsN {base : Nat} {e : TypeId} {n : Nat} {v' : Value} {l : List α} {V : Value → α → Prop} {news : List Value} (h : w.ownsRow base e n v' l.length news) (hb : l.length ≤ 1048576)
    (hx : ∀ i x, l[i]? = some x → ∃ v, V v x ∧ ∀ k u, v.cells[k]? = some u → news[i * n + k]? = some u) (hnn : v' ≠ .slice none 0 0 ∨ l = []) :
    ∃ oa cap, v' = .slice oa l.length cap ∧ SR (Nb base w) w n V oa l.length cap l ∧
      (oa = none ∧ l = [] ∧ cap = 0 ∨ ∃ g cur, oa = some ⟨g, 0, none⟩ ∧ base ≤ g ∧ w.heap[g]? = some (.cells cur e (0, 0)) ∧ l.length * n ≤ cur.size ∧ cap * n = cur.size) := by
  obtain ⟨h1, h2⟩ := h
  rcases h2 with ⟨rfl, h2⟩ | ⟨g, cap, cur, rfl, k1, k2, k3, k4, k5, k6⟩
  · have hl : l = [] := List.eq_nil_of_length_eq_zero h2
    subst hl
    exact ⟨none, 0, rfl, ⟨rfl, by simp, by simp, by simp [maxLen], fun i x hi => by simp at hi⟩, .inl ⟨rfl, rfl, rfl⟩⟩
  · refine ⟨_, cap, rfl, ⟨rfl, hb, k3, k4, fun i x hi => ?_⟩, .inr ⟨g, cur, rfl, k1, k2, by rw [k5]; exact Nat.mul_le_mul_right _ k3, k5.symm⟩⟩
    obtain ⟨v, m1, m2⟩ := hx i x hi
    refine ⟨g, 0, v, rfl, ⟨k1, cur, e, k2⟩, (Array.getElem?_eq_some_iff.1 k2).1, fun k u hu => ?_, m1⟩
    have h3 := m2 k u hu
    rw [← k6, List.getElem?_take] at h3
    split at h3
    · simp only [World.cell?, k2, Nat.zero_add]
      simpa using h3
    · cases h3
end
end Go.Proofs.YtpodeccpibnlbaaGreatDoor
namespace Go.Proofs.YtpodeccpibnlbaaGreatDoor
set_option linter.unusedVariables false
set_option linter.unusedSimpArgs false
open Go.RowKit

theorem lt_alloc {w : World} {k : Nat} (o : Obj) (h : k < w.heap.size) : k < (w.alloc o).heap.size := by
  rw [World.size_alloc]; omega
theorem lt1_0 (w : World) (o : Obj) : w.heap.size < (w.alloc o).heap.size := by simp only [World.size_alloc]; omega
theorem lt2_0 (w : World) (o o1 : Obj) : w.heap.size < ((w.alloc o).alloc o1).heap.size := by simp only [World.size_alloc]; omega
theorem lt2_1 (w : World) (o o1 : Obj) : w.heap.size + 1 < ((w.alloc o).alloc o1).heap.size := by simp only [World.size_alloc]; omega
theorem lt3_0 (w : World) (o o1 o2 : Obj) : w.heap.size < (((w.alloc o).alloc o1).alloc o2).heap.size := by simp only [World.size_alloc]; omega
theorem lt3_1 (w : World) (o o1 o2 : Obj) : w.heap.size + 1 < (((w.alloc o).alloc o1).alloc o2).heap.size := by simp only [World.size_alloc]; omega
theorem lt3_2 (w : World) (o o1 o2 : Obj) : w.heap.size + 2 < (((w.alloc o).alloc o1).alloc o2).heap.size := by simp only [World.size_alloc]; omega
theorem heap1_0 (w : World) (o : Obj) : (w.alloc o).heap[w.heap.size]? = some o := heap_alloc_new w o
theorem heap2_0 (w : World) (o o1 : Obj) : ((w.alloc o).alloc o1).heap[w.heap.size]? = some o := (Below.heap_alloc _ _ _ (lt1_0 _ _)).trans (heap1_0 _ _)
theorem heap2_1 (w : World) (o o1 : Obj) : ((w.alloc o).alloc o1).heap[w.heap.size + 1]? = some o1 := by
  have h := heap1_0 (w.alloc o) o1
  rwa [World.size_alloc] at h
theorem heap3_0 (w : World) (o o1 o2 : Obj) : (((w.alloc o).alloc o1).alloc o2).heap[w.heap.size]? = some o := (Below.heap_alloc _ _ _ (lt2_0 _ _ _)).trans (heap2_0 _ _ _)
theorem heap3_1 (w : World) (o o1 o2 : Obj) : (((w.alloc o).alloc o1).alloc o2).heap[w.heap.size + 1]? = some o1 := (Below.heap_alloc _ _ _ (lt2_1 _ _ _)).trans (heap2_1 _ _ _)
theorem heap3_2 (w : World) (o o1 o2 : Obj) : (((w.alloc o).alloc o1).alloc o2).heap[w.heap.size + 2]? = some o2 := by
  have h := heap2_1 (w.alloc o) o1 o2
  rwa [World.size_alloc] at h
end Go.Proofs.YtpodeccpibnlbaaGreatDoor
namespace Go.Proofs.YtpodeccpibnlbaaGreatDoor
set_option linter.unusedVariables false
set_option linter.unusedSimpArgs false
open Go.RowKit

def shf (k : Nat) (r : Int) : Int := if r < 0 then -1 else (k : Int) + r
theorem idxI_ge {α : Type} (f : α → Bool) : ∀ l, -1 ≤ idxI f l
  | [] => by simp [idxI]
  | x :: r => by
    have := idxI_ge f r
    simp only [idxI]
    split
    · omega
    · split <;> omega
theorem shf_0 {α : Type} (f : α → Bool) (l : List α) : shf 0 (idxI f l) = idxI f l := by
  have := idxI_ge f l
  unfold shf; split <;> omega
theorem shf_hit {α : Type} {f : α → Bool} {l : List α} {k : Nat} {x : α} (hx : l[k]? = some x) (hf : f x = true) : shf k (idxI f (l.drop k)) = (k : Int) := by
  rw [List.drop_eq_getElem_cons (by obtain ⟨h, _⟩ := List.getElem?_eq_some_iff.1 hx; exact h)]
  obtain ⟨h, rfl⟩ := List.getElem?_eq_some_iff.1 hx
  simp [idxI, hf, shf]
theorem shf_miss {α : Type} {f : α → Bool} {l : List α} {k : Nat} {x : α} (hx : l[k]? = some x) (hf : f x = false) : shf k (idxI f (l.drop k)) = shf (k + 1) (idxI f (l.drop (k + 1))) := by
  obtain ⟨h, rfl⟩ := List.getElem?_eq_some_iff.1 hx
  rw [List.drop_eq_getElem_cons h]
  simp only [idxI, hf, shf]
  have := idxI_ge f (l.drop (k + 1))
  simp only [Bool.false_eq_true, if_false]
  split <;> split <;> omega
theorem shf_end {α : Type} {f : α → Bool} {l : List α} {k : Nat} (h : l.length ≤ k) : shf k (idxI f (l.drop k)) = -1 := by
  rw [List.drop_eq_nil_of_le h]; rfl
theorem any_idx {α : Type} (f : α → Bool) : ∀ l : List α, l.any f = decide (0 ≤ idxI f l)
  | [] => rfl
  | x :: r => by
    have h1 := any_idx f r
    have := idxI_ge f r
    rw [List.any_cons, h1, idxI]
    cases f x with
    | true => simp
    | false =>
      simp only [Bool.false_or, Bool.false_eq_true, if_false]
      rw [Bool.eq_iff_iff, decide_eq_true_iff, decide_eq_true_iff]
      split <;> omega
theorem all_any {α : Type} (f : α → Bool) (l : List α) : (!l.any (fun x => !f x)) = l.all f := by
  induction l with
  | nil => rfl
  | cons x r ih => rw [List.any_cons, List.all_cons, ← ih]; cases f x <;> simp

/-- The number is a function's, and a call enters it. -/
def Fn (M : Nat) : Prop := ∀ args w, Sem.run Tryz.prog (callFunc M args) w = .ok (.enter M args) w
theorem fn_of {M : Nat} {fn : Func} (h : Tryz.prog.funcs[M]? = some fn) (hn : (fn.name == "runtime.NumGoroutine") = false) (hb : fn.body.isNone = false) : Fn M := by
  intro args w
  have hn' : ¬ fn.name = "runtime.NumGoroutine" := fun e => by simp [e] at hn
  have hb' : ¬ fn.body = Option.none := fun e => by simp [e] at hb
  simp [callFunc, go_sem, h, hn', hb']

section
variable {S : Nat → Prop} {w0 wV : World} {oa : Option Addr} {len cap : Nat}
theorem SR.str {l : List ByteArray} (h : SR S w0 1 (strV) oa len cap l) {i : Nat} {x : ByteArray} (hi : l[i]? = some x) : ∃ b o, oa = some ⟨b, o, none⟩ ∧ S b ∧ b < w0.heap.size ∧
    w0.cell? ⟨b, o + i, none⟩ = some (.string x) ∧ strV (.string x) x := by
  obtain ⟨b, o, v, h1, h2, h3, h4, h5⟩ := h.at' i x hi
  obtain ⟨rfl, k0⟩ := id h5
  have h6 := h4 0 _ rfl
  simp only [Nat.mul_one, Nat.add_zero] at h6
  exact ⟨b, o, h1, h2, h3, h6, h5⟩
theorem SR.pl {l : List Pl} (h : SR S w0 2 (plV S wV) oa len cap l) {i : Nat} {x : Pl} (hi : l[i]? = some x) : ∃ b o oa1 la1 ca1, oa = some ⟨b, o, none⟩ ∧ S b ∧ b < w0.heap.size ∧
    w0.cell? ⟨b, o + i * 2, none⟩ = some (.string x.loc) ∧
    w0.cell? ⟨b, o + i * 2 + 1, none⟩ = some (.slice oa1 la1 ca1) ∧ plV S wV (.agg #[.string x.loc, .slice oa1 la1 ca1]) x := by
  obtain ⟨b, o, v, h1, h2, h3, h4, h5⟩ := h.at' i x hi
  obtain ⟨k0, oa1, la1, ca1, rfl, k1⟩ := id h5
  have hc : (Value.agg #[.string x.loc, .slice oa1 la1 ca1]).cells = #[.string x.loc, .slice oa1 la1 ca1] := by simp [Value.cells]
  rw [hc] at h4
  exact ⟨b, o, oa1, la1, ca1, h1, h2, h3, h4 0 _ rfl, h4 1 _ rfl, h5⟩
theorem SR.vr {l : List Vr} (h : SR S w0 2 (vrV) oa len cap l) {i : Nat} {x : Vr} (hi : l[i]? = some x) : ∃ b o, oa = some ⟨b, o, none⟩ ∧ S b ∧ b < w0.heap.size ∧
    w0.cell? ⟨b, o + i * 2, none⟩ = some (.string x.name) ∧
    w0.cell? ⟨b, o + i * 2 + 1, none⟩ = some (.string x.type) ∧ vrV (.agg #[.string x.name, .string x.type]) x := by
  obtain ⟨b, o, v, h1, h2, h3, h4, h5⟩ := h.at' i x hi
  obtain ⟨rfl, k0⟩ := id h5
  have hc : (Value.agg #[.string x.name, .string x.type]).cells = #[.string x.name, .string x.type] := by simp [Value.cells]
  rw [hc] at h4
  exact ⟨b, o, h1, h2, h3, h4 0 _ rfl, h4 1 _ rfl, h5⟩
theorem SR.arm {l : List Arm} (h : SR S w0 3 (armV) oa len cap l) {i : Nat} {x : Arm} (hi : l[i]? = some x) : ∃ b o, oa = some ⟨b, o, none⟩ ∧ S b ∧ b < w0.heap.size ∧
    w0.cell? ⟨b, o + i * 3, none⟩ = some (.string x.variant) ∧
    w0.cell? ⟨b, o + i * 3 + 1, none⟩ = some (.string x.loc) ∧
    w0.cell? ⟨b, o + i * 3 + 2, none⟩ = some (.string x.block) ∧ armV (.agg #[.string x.variant, .string x.loc, .string x.block]) x := by
  obtain ⟨b, o, v, h1, h2, h3, h4, h5⟩ := h.at' i x hi
  obtain ⟨rfl, k0⟩ := id h5
  have hc : (Value.agg #[.string x.variant, .string x.loc, .string x.block]).cells = #[.string x.variant, .string x.loc, .string x.block] := by simp [Value.cells]
  rw [hc] at h4
  exact ⟨b, o, h1, h2, h3, h4 0 _ rfl, h4 1 _ rfl, h4 2 _ rfl, h5⟩
theorem SR.sct {l : List Sct} (h : SR S w0 5 (sctV S wV) oa len cap l) {i : Nat} {x : Sct} (hi : l[i]? = some x) : ∃ b o oa1 la1 ca1, oa = some ⟨b, o, none⟩ ∧ S b ∧ b < w0.heap.size ∧
    w0.cell? ⟨b, o + i * 5, none⟩ = some (.int .i64 x.pos) ∧
    w0.cell? ⟨b, o + i * 5 + 1, none⟩ = some (.string x.name) ∧
    w0.cell? ⟨b, o + i * 5 + 2, none⟩ = some (.bool x.safe) ∧
    w0.cell? ⟨b, o + i * 5 + 3, none⟩ = some (.bool x.hook) ∧
    w0.cell? ⟨b, o + i * 5 + 4, none⟩ = some (.slice oa1 la1 ca1) ∧ sctV S wV (.agg #[.int .i64 x.pos, .string x.name, .bool x.safe, .bool x.hook, .slice oa1 la1 ca1]) x := by
  obtain ⟨b, o, v, h1, h2, h3, h4, h5⟩ := h.at' i x hi
  obtain ⟨k0, k1, oa1, la1, ca1, rfl, k2⟩ := id h5
  have hc : (Value.agg #[.int .i64 x.pos, .string x.name, .bool x.safe, .bool x.hook, .slice oa1 la1 ca1]).cells = #[.int .i64 x.pos, .string x.name, .bool x.safe, .bool x.hook, .slice oa1 la1 ca1] := by simp [Value.cells]
  rw [hc] at h4
  exact ⟨b, o, oa1, la1, ca1, h1, h2, h3, h4 0 _ rfl, h4 1 _ rfl, h4 2 _ rfl, h4 3 _ rfl, h4 4 _ rfl, h5⟩
theorem SR.enm {l : List Enm} (h : SR S w0 3 (enmV S wV) oa len cap l) {i : Nat} {x : Enm} (hi : l[i]? = some x) : ∃ b o oa1 la1 ca1, oa = some ⟨b, o, none⟩ ∧ S b ∧ b < w0.heap.size ∧
    w0.cell? ⟨b, o + i * 3, none⟩ = some (.int .i64 x.pos) ∧
    w0.cell? ⟨b, o + i * 3 + 1, none⟩ = some (.string x.name) ∧
    w0.cell? ⟨b, o + i * 3 + 2, none⟩ = some (.slice oa1 la1 ca1) ∧ enmV S wV (.agg #[.int .i64 x.pos, .string x.name, .slice oa1 la1 ca1]) x := by
  obtain ⟨b, o, v, h1, h2, h3, h4, h5⟩ := h.at' i x hi
  obtain ⟨k0, k1, oa1, la1, ca1, rfl, k2⟩ := id h5
  have hc : (Value.agg #[.int .i64 x.pos, .string x.name, .slice oa1 la1 ca1]).cells = #[.int .i64 x.pos, .string x.name, .slice oa1 la1 ca1] := by simp [Value.cells]
  rw [hc] at h4
  exact ⟨b, o, oa1, la1, ca1, h1, h2, h3, h4 0 _ rfl, h4 1 _ rfl, h4 2 _ rfl, h5⟩
theorem SR.stm {l : List Stm} (h : SR S w0 8 (stmV S wV) oa len cap l) {i : Nat} {x : Stm} (hi : l[i]? = some x) : ∃ b o oa1 la1 ca1 ob1 lb1 cb1, oa = some ⟨b, o, none⟩ ∧ S b ∧ b < w0.heap.size ∧
    w0.cell? ⟨b, o + i * 8, none⟩ = some (.int .i64 x.pos) ∧
    w0.cell? ⟨b, o + i * 8 + 1, none⟩ = some (.int .i64 x.kind) ∧
    w0.cell? ⟨b, o + i * 8 + 2, none⟩ = some (.string x.dest.loc) ∧
    w0.cell? ⟨b, o + i * 8 + 3, none⟩ = some (.slice oa1 la1 ca1) ∧
    w0.cell? ⟨b, o + i * 8 + 4, none⟩ = some (.int .i64 x.n) ∧
    w0.cell? ⟨b, o + i * 8 + 5, none⟩ = some (.string x.name) ∧
    w0.cell? ⟨b, o + i * 8 + 6, none⟩ = some (.string x.variant) ∧
    w0.cell? ⟨b, o + i * 8 + 7, none⟩ = some (.slice ob1 lb1 cb1) ∧ stmV S wV (.agg #[.int .i64 x.pos, .int .i64 x.kind, .string x.dest.loc, .slice oa1 la1 ca1, .int .i64 x.n, .string x.name, .string x.variant, .slice ob1 lb1 cb1]) x := by
  obtain ⟨b, o, v, h1, h2, h3, h4, h5⟩ := h.at' i x hi
  obtain ⟨k0, k1, k2, k3, k4, k5, oa1, la1, ca1, ob1, lb1, cb1, rfl, k6, k7⟩ := id h5
  have hc : (Value.agg #[.int .i64 x.pos, .int .i64 x.kind, .string x.dest.loc, .slice oa1 la1 ca1, .int .i64 x.n, .string x.name, .string x.variant, .slice ob1 lb1 cb1]).cells = #[.int .i64 x.pos, .int .i64 x.kind, .string x.dest.loc, .slice oa1 la1 ca1, .int .i64 x.n, .string x.name, .string x.variant, .slice ob1 lb1 cb1] := by simp [Value.cells]
  rw [hc] at h4
  exact ⟨b, o, oa1, la1, ca1, ob1, lb1, cb1, h1, h2, h3, h4 0 _ rfl, h4 1 _ rfl, h4 2 _ rfl, h4 3 _ rfl, h4 4 _ rfl, h4 5 _ rfl, h4 6 _ rfl, h4 7 _ rfl, h5⟩
theorem SR.blk {l : List Blk} (h : SR S w0 11 (blkV S wV) oa len cap l) {i : Nat} {x : Blk} (hi : l[i]? = some x) : ∃ b o oa1 la1 ca1 ob1 lb1 cb1 oc1 lc1 cc1 od1 ld1 cd1 oe1 le1 ce1, oa = some ⟨b, o, none⟩ ∧ S b ∧ b < w0.heap.size ∧
    w0.cell? ⟨b, o + i * 11, none⟩ = some (.int .i64 x.pos) ∧
    w0.cell? ⟨b, o + i * 11 + 1, none⟩ = some (.string x.name) ∧
    w0.cell? ⟨b, o + i * 11 + 2, none⟩ = some (.slice oa1 la1 ca1) ∧
    w0.cell? ⟨b, o + i * 11 + 3, none⟩ = some (.int .i64 x.term.pos) ∧
    w0.cell? ⟨b, o + i * 11 + 4, none⟩ = some (.int .i64 x.term.kind) ∧
    w0.cell? ⟨b, o + i * 11 + 5, none⟩ = some (.string x.term.dest.loc) ∧
    w0.cell? ⟨b, o + i * 11 + 6, none⟩ = some (.slice ob1 lb1 cb1) ∧
    w0.cell? ⟨b, o + i * 11 + 7, none⟩ = some (.string x.term.name) ∧
    w0.cell? ⟨b, o + i * 11 + 8, none⟩ = some (.slice oc1 lc1 cc1) ∧
    w0.cell? ⟨b, o + i * 11 + 9, none⟩ = some (.slice od1 ld1 cd1) ∧
    w0.cell? ⟨b, o + i * 11 + 10, none⟩ = some (.slice oe1 le1 ce1) ∧ blkV S wV (.agg #[.int .i64 x.pos, .string x.name, .slice oa1 la1 ca1, .int .i64 x.term.pos, .int .i64 x.term.kind, .string x.term.dest.loc, .slice ob1 lb1 cb1, .string x.term.name, .slice oc1 lc1 cc1, .slice od1 ld1 cd1, .slice oe1 le1 ce1]) x := by
  obtain ⟨b, o, v, h1, h2, h3, h4, h5⟩ := h.at' i x hi
  obtain ⟨k0, k1, oa1, la1, ca1, ob1, lb1, cb1, oc1, lc1, cc1, od1, ld1, cd1, oe1, le1, ce1, rfl, k2⟩ := id h5
  have hc : (Value.agg #[.int .i64 x.pos, .string x.name, .slice oa1 la1 ca1, .int .i64 x.term.pos, .int .i64 x.term.kind, .string x.term.dest.loc, .slice ob1 lb1 cb1, .string x.term.name, .slice oc1 lc1 cc1, .slice od1 ld1 cd1, .slice oe1 le1 ce1]).cells = #[.int .i64 x.pos, .string x.name, .slice oa1 la1 ca1, .int .i64 x.term.pos, .int .i64 x.term.kind, .string x.term.dest.loc, .slice ob1 lb1 cb1, .string x.term.name, .slice oc1 lc1 cc1, .slice od1 ld1 cd1, .slice oe1 le1 ce1] := by simp [Value.cells]
  rw [hc] at h4
  exact ⟨b, o, oa1, la1, ca1, ob1, lb1, cb1, oc1, lc1, cc1, od1, ld1, cd1, oe1, le1, ce1, h1, h2, h3, h4 0 _ rfl, h4 1 _ rfl, h4 2 _ rfl, h4 3 _ rfl, h4 4 _ rfl, h4 5 _ rfl, h4 6 _ rfl, h4 7 _ rfl, h4 8 _ rfl, h4 9 _ rfl, h4 10 _ rfl, h5⟩
theorem SR.fun {l : List Fun} (h : SR S w0 6 (funV S wV) oa len cap l) {i : Nat} {x : Fun} (hi : l[i]? = some x) : ∃ b o oa1 la1 ca1 ob1 lb1 cb1 oc1 lc1 cc1, oa = some ⟨b, o, none⟩ ∧ S b ∧ b < w0.heap.size ∧
    w0.cell? ⟨b, o + i * 6, none⟩ = some (.int .i64 x.pos) ∧
    w0.cell? ⟨b, o + i * 6 + 1, none⟩ = some (.string x.name) ∧
    w0.cell? ⟨b, o + i * 6 + 2, none⟩ = some (.slice oa1 la1 ca1) ∧
    w0.cell? ⟨b, o + i * 6 + 3, none⟩ = some (.slice ob1 lb1 cb1) ∧
    w0.cell? ⟨b, o + i * 6 + 4, none⟩ = some (.string x.result) ∧
    w0.cell? ⟨b, o + i * 6 + 5, none⟩ = some (.slice oc1 lc1 cc1) ∧ funV S wV (.agg #[.int .i64 x.pos, .string x.name, .slice oa1 la1 ca1, .slice ob1 lb1 cb1, .string x.result, .slice oc1 lc1 cc1]) x := by
  obtain ⟨b, o, v, h1, h2, h3, h4, h5⟩ := h.at' i x hi
  obtain ⟨k0, k1, k2, oa1, la1, ca1, ob1, lb1, cb1, oc1, lc1, cc1, rfl, k3⟩ := id h5
  have hc : (Value.agg #[.int .i64 x.pos, .string x.name, .slice oa1 la1 ca1, .slice ob1 lb1 cb1, .string x.result, .slice oc1 lc1 cc1]).cells = #[.int .i64 x.pos, .string x.name, .slice oa1 la1 ca1, .slice ob1 lb1 cb1, .string x.result, .slice oc1 lc1 cc1] := by simp [Value.cells]
  rw [hc] at h4
  exact ⟨b, o, oa1, la1, ca1, ob1, lb1, cb1, oc1, lc1, cc1, h1, h2, h3, h4 0 _ rfl, h4 1 _ rfl, h4 2 _ rfl, h4 3 _ rfl, h4 4 _ rfl, h4 5 _ rfl, h5⟩
end
end Go.Proofs.YtpodeccpibnlbaaGreatDoor
