/- Memory words for the walks of this seat: a slice that owns a row of cells, what an append leaves of it, and worlds that keep all blocks but some. No program in sight. Types as lists of bytes: what kind's functions and the document's answer, and that they answer alike: plain law, no program in sight. -/
import Derived.WalkKit
import Derived.WalkSpells
import Derived.WalkLawsBesides
namespace Go.Proofs.YtpodeccpibnlbaaGreatDoor
set_option linter.unusedVariables false
set_option linter.unusedSimpArgs false
open Go.RowKit

/-- A fact that the walk's simp is not to use. -/
structure Hd (p : Prop) : Prop where
  out : p

theorem heap_drew (w : World) : w.drew.heap = w.heap := rfl

theorem cell_one_new' {w : World} {u : Value} {t : TypeId} (k : Nat) (n : Nat) (h : n = w.heap.size ∧ k = 0) : ((w.alloc (.cells #[u] t)).drew).cell? ⟨n, k, none⟩ = some u := by
  obtain ⟨rfl, rfl⟩ := h
  exact World.cell?_alloc_new w #[u] t 0

/-- The slice value over the head of block 'og' (none: nil). -/
def sv (og : Option Nat) (n c : Nat) : Value := .slice (og.map fun g => ⟨g, 0, none⟩) n c
theorem sv_some (g n c : Nat) : sv (some g) n c = .slice (some ⟨g, 0, none⟩) n c := rfl
theorem sv_none (n c : Nat) : sv none n c = .slice none n c := rfl

/-- Block og holds, from its head on, the cells xs of n elements; there is room for c. -/
structure Sl (w : World) (e size : Nat) (og : Option Nat) (n c : Nat) (xs : List Value) : Prop where
  len : xs.length = n * size
  le : n ≤ c
  max : c ≤ maxLen
  nil : og = none → c = 0
  row : ∀ g, og = some g → ∃ cur : Array Value, w.heap[g]? = some (.cells cur e (0, 0)) ∧ c * size ≤ cur.size ∧ cur.toList.take (n * size) = xs

theorem Sl.nilOf (w : World) (e size : Nat) : Sl w e size none 0 0 [] := ⟨by simp, Nat.le_refl _, Nat.zero_le _, fun _ => rfl, fun _ h => by cases h⟩

theorem Sl.lt {w : World} {e size : Nat} {og : Option Nat} {n c : Nat} {xs : List Value} (h : Sl w e size og n c xs) {g : Nat} (hg : og = some g) : g < w.heap.size := by
  obtain ⟨cur, hh, _⟩ := h.row g hg
  exact (Array.getElem?_eq_some_iff.1 hh).1

theorem Sl.keep {w w' : World} {e size : Nat} {og : Option Nat} {n c : Nat} {xs : List Value} (h : Sl w e size og n c xs)
    (hk : ∀ g, og = some g → w'.heap[g]? = w.heap[g]?) : Sl w' e size og n c xs :=
  ⟨h.len, h.le, h.max, h.nil, fun g hg => let ⟨cur, a, b⟩ := h.row g hg; ⟨cur, (hk g hg).trans a, b⟩⟩

theorem Sl.cell {w : World} {e size : Nat} {og : Option Nat} {n c : Nat} {xs : List Value} (h : Sl w e size og n c xs) {g : Nat} (hg : og = some g) {j : Nat} {v : Value}
    (hj : xs[j]? = some v) : w.cell? ⟨g, j, none⟩ = some v := by
  obtain ⟨cur, hh, _, ht⟩ := h.row g hg
  rw [← ht, List.getElem?_take] at hj
  split at hj
  · simp only [World.cell?, hh]
    simpa using hj
  · cases hj

theorem Sl.frozen {w : World} {e size : Nat} {og : Option Nat} {n c : Nat} {xs : List Value} (h : Sl w e size og n c xs) {g : Nat} (hg : og = some g) (j : Nat) :
    w.frozen? ⟨g, j, none⟩ = false := by
  obtain ⟨cur, hh, _⟩ := h.row g hg
  simp [World.frozen?, hh]

/-- There is an element: so there is a block. -/
theorem Sl.some_of {w : World} {e size : Nat} {og : Option Nat} {n c : Nat} {xs : List Value} (h : Sl w e size og n c xs) (hn : 0 < n) : ∃ g, og = some g := by
  cases og with
  | some g => exact ⟨g, rfl⟩
  | none => have := h.nil rfl; have := h.le; omega

/-- A store into the row. -/
theorem Sl.set {w : World} {e size : Nat} {og : Option Nat} {n c : Nat} {xs : List Value} (h : Sl w e size og n c xs) {g : Nat} (hg : og = some g) {j : Nat} (hj : j < xs.length) (v : Value) :
    Sl (w.setCell ⟨g, j, none⟩ v) e size og n c (xs.set j v) := by
  obtain ⟨cur, hh, hc, ht⟩ := h.row g hg
  refine ⟨by simpa using h.len, h.le, h.max, h.nil, fun g' hg' => ?_⟩
  obtain rfl : g = g' := Option.some.inj (hg.symm.trans hg')
  refine ⟨cur.setIfInBounds j v, ?_, by simpa using hc, ?_⟩
  · simp [World.setCell, Array.getElem?_modify, hh]
  · rw [Array.toList_setIfInBounds, List.take_set, ht]

/-- w' is w but for the blocks of S, and for new ones. -/
structure Mod (S : Nat → Prop) (w w' : World) : Prop where
  os : w'.os = w.os
  tape : w'.tape = w.tape
  output : w'.output = w.output
  size : w.heap.size ≤ w'.heap.size
  block : ∀ k, k < w.heap.size → ¬ S k → w'.heap[k]? = w.heap[k]?

theorem Mod.refl (S : Nat → Prop) (w : World) : Mod S w w := ⟨rfl, rfl, rfl, Nat.le_refl _, fun _ _ _ => rfl⟩
theorem Mod.trans {S T : Nat → Prop} {a b c : World} (h : Mod S a b) (k : Mod T b c) (hT : ∀ i, T i → S i ∨ a.heap.size ≤ i) : Mod S a c :=
  ⟨k.os.trans h.os, k.tape.trans h.tape, k.output.trans h.output, Nat.le_trans h.size k.size, fun i hi hS =>
    (k.block i (Nat.lt_of_lt_of_le hi h.size) (fun ht => (hT i ht).elim hS (fun hh => by omega))).trans (h.block i hi hS)⟩
theorem Mod.mono {S T : Nat → Prop} {a b : World} (h : Mod S a b) (hS : ∀ i, S i → T i) : Mod T a b :=
  ⟨h.os, h.tape, h.output, h.size, fun i hi hT => h.block i hi (fun hs => hT (hS i hs))⟩
theorem Mod.drew (S : Nat → Prop) (w : World) : Mod S w w.drew := ⟨rfl, rfl, rfl, Nat.le_refl _, fun _ _ _ => rfl⟩
theorem Mod.alloc (S : Nat → Prop) (w : World) (o : Obj) : Mod S w (w.alloc o) :=
  ⟨rfl, rfl, rfl, by simp, fun k hk _ => Below.heap_alloc w o k hk⟩
theorem Mod.setCell {S : Nat → Prop} (w : World) (a : Addr) (v : Value) (hS : S a.block) : Mod S w (w.setCell a v) :=
  ⟨rfl, rfl, rfl, by simp, fun k _ hk => Below.heap_setCell w a v k (fun e => hk (e ▸ hS))⟩
theorem Mod.below {S : Nat → Prop} {w w' : World} {B : Nat} (h : Mod S w w') (hB : B ≤ w.heap.size) (hS : ∀ k, k < B → ¬ S k) : Below B w w' :=
  ⟨h.os, h.tape, h.output, h.size, fun k hk => h.block k (by omega) (hS k hk)⟩

section
variable {P : Program}
/-- WHAT AN append LEAVES. -/
theorem run_append_sl (w : World) (t ty e : TypeId) (i : TypeInfo) (z : Value) (size bytes : Nat) (ht : P.underlying t = some (.slice e)) (hi : P.info? e = some i) (hz : i.zero = some z)
    (hsize : i.size = size) (hby : i.bytes = bytes) (hzs : z.cells.size = size) (hsz : 0 < size)
    (og : Option Nat) (n c : Nat) (xs : List Value) (hs : Sl w e size og n c xs)
    (ad : Addr) (m cx : Nat) (news : List Value) (hl : news.length = m * size) (hnews : ∀ j u, news[j]? = some u → w.cell? (ad.add j) = some u) (h1 : ∀ u ∈ news, u.oneCell' = true)
    (hm : 0 < m) (h63 : n + m ≤ maxLen) (hbytes : (n + m) * bytes ≤ 140737488355328) :
    ∃ g' c' w', (Builtin.append_ #[t, t] ty #[sv og n c, .slice (some ad) m cx]).run P w = .ok (sv (some g') (n + m) c') w' ∧
      Sl w' e size (some g') (n + m) c' (xs ++ news) ∧ (some g' = og ∨ w.heap.size ≤ g') ∧ Mod (fun k => some k = og) w w' := by
  have owned : ∀ v' w', w'.ownsRow w.heap.size e size v' (n + m) (xs ++ news) → w.grownBy w' none →
      ∃ g' c', v' = sv (some g') (n + m) c' ∧ Sl w' e size (some g') (n + m) c' (xs ++ news) ∧ w.heap.size ≤ g' ∧ Mod (fun k => some k = og) w w' := by
    intro v' w' ho hg
    rcases ho.2 with ⟨_, h0⟩ | ⟨g, cap, cur, rfl, hb, hh, hnc, hcm, hcs, htk⟩
    · omega
    · exact ⟨g, cap, rfl, ⟨ho.1, hnc, hcm, fun h => (by cases h), fun g' hg' => by obtain rfl := Option.some.inj hg'; exact ⟨cur, hh, by omega, htk⟩⟩, hb,
        ⟨hg.os, hg.tape, hg.output, hg.size, fun k hk _ => hg.block k hk (by simp)⟩⟩
  cases og with
  | none =>
    have hc := hs.nil rfl
    have hn0 : n = 0 := by have := hs.le; omega
    subst hc; subst hn0
    have hx : xs = [] := List.eq_nil_of_length_eq_zero (by simpa using hs.len)
    subst hx
    obtain ⟨v', w', hr, ho, hg, _⟩ := run_append_own (P := P) w w.heap.size t ty e i z size bytes ht hi hz hsize hby hzs hsz (.slice none 0 0) 0 [] (World.ownsRow_nil w _ e size) ad m cx news hl hnews h1 h63 hbytes (Nat.le_refl _)
    obtain ⟨g', c', rfl, hS, hge, hM⟩ := owned v' w' ho hg
    exact ⟨g', c', w', hr, hS, Or.inr hge, hM⟩
  | some g =>
    obtain ⟨cur, hh, hc, htk⟩ := hs.row g rfl
    by_cases hroom : n + m ≤ c
    · subst hsize
      have hmul : (n + m) * i.size ≤ c * i.size := Nat.mul_le_mul_right _ hroom
      have hfit : n * i.size + news.length ≤ cur.size := by rw [hl, ← Nat.add_mul]; omega
      have hr := run_append_room (P := P) w t ty e i ht hi g n c cur hh ad m cx news hl hnews h1 hroom hfit
      refine ⟨g, c, _, hr, ⟨?_, hroom, hs.max, fun h => (by cases h), fun g' hg' => ?_⟩, Or.inl rfl, ?_⟩
      · rw [List.length_append, hs.len, hl, Nat.add_mul]
      · obtain rfl := Option.some.inj hg'
        refine ⟨(cur.toList.take (n * i.size) ++ news ++ cur.toList.drop (n * i.size + news.length)).toArray, ?_, ?_, ?_⟩
        · simp [World.setRow, Array.getElem?_modify, hh]
        · simp [List.length_take]; omega
        · rw [htk, List.append_assoc, List.take_append, List.take_of_length_le (by rw [hs.len, Nat.add_mul]; omega), hs.len, Nat.add_mul, Nat.add_sub_cancel_left, List.take_append, List.take_of_length_le (by omega), hl]
          simp
      · refine ⟨rfl, rfl, rfl, by simp [World.setRow], fun k _ hk => ?_⟩
        simp only [World.setRow, Array.getElem?_modify]
        rw [if_neg (fun h => hk (by rw [h]))]
    · obtain ⟨v', w', hr, ho, hg⟩ := run_append_arg_grows (P := P) w t ty e i z size bytes ht hi hz hsize hby hzs hsz ⟨g, 0, none⟩ n c xs hs.len
        (fun j u hj => by rw [Addr.add_lit, Nat.zero_add]; exact hs.cell rfl hj) ad m cx news hl hnews (by omega) h63 hbytes
      obtain ⟨g', c', rfl, hS, hge, hM⟩ := owned v' w' ho hg
      exact ⟨g', c', w', hr, hS, Or.inr hge, hM⟩

theorem wpList_append_sl (w : World) {ops : Array Oper} {rest : List Oper} {o : Oper} {a : Act} {Q : Exit → Act → World → Prop}
    (hg : o.guard = none) (s x : Operand) (t : TypeId) (hop : o.op = Op.call { callee := Callee.builtin Builtin.append, args := #[s, x], argTypes := #[t, t] })
    (e : TypeId) (i : TypeInfo) (z : Value) (size bytes : Nat) (ht : P.underlying t = some (.slice e)) (hi : P.info? e = some i) (hz : i.zero = some z)
    (hsize : i.size = size) (hby : i.bytes = bytes) (hzs : z.cells.size = size) (hsz : 0 < size)
    (og : Option Nat) (n c : Nat) (xs : List Value) (hsv : a.eval s = sv og n c) (hs : Sl w e size og n c xs)
    (ad : Addr) (m cx : Nat) (news : List Value) (hx : a.eval x = .slice (some ad) m cx) (hl : news.length = m * size) (hnews : ∀ j u, news[j]? = some u → w.cell? (ad.add j) = some u) (h1 : ∀ u ∈ news, u.oneCell' = true)
    (hm : 0 < m) (h63 : n + m ≤ maxLen) (hbytes : (n + m) * bytes ≤ 140737488355328)
    (hK : ∀ g' c' w', Sl w' e size (some g') (n + m) c' (xs ++ news) → (some g' = og ∨ w.heap.size ≤ g') → Mod (fun k => some k = og) w w' →
      wpList P ops Q rest (a.put o.dst (.slice (some ⟨g', 0, none⟩) (n + m) c')) w') :
    wpList P ops Q (o :: rest) a w := by
  refine wpList_plain hg fun K hK' => ?_
  obtain ⟨g', c', w', hrun, r1, r2, r3⟩ := run_append_sl (P := P) w t o.type e i z size bytes ht hi hz hsize hby hzs hsz og n c xs hs ad m cx news hl hnews h1 hm h63 hbytes
  unfold Oper.wp
  simp [execOp, hop, resolve, invoke, builtin, hsv, hx, hrun, Result.andThen]
  exact hK' _ _ (hK g' c' w' r1 r2 r3)
end
end Go.Proofs.YtpodeccpibnlbaaGreatDoor
namespace Go.Proofs.YtpodeccpibnlbaaGreatDoor
set_option linter.unusedVariables false
set_option linter.unusedSimpArgs false

abbrev Bs := List UInt8

def letterB (c : UInt8) : Bool := decide (97 ≤ c.toNat) && decide (c.toNat ≤ 122)
def digitB (c : UInt8) : Bool := decide (48 ≤ c.toNat) && decide (c.toNat ≤ 57)
def innerB (c : UInt8) : Bool := letterB c || digitB c || decide (c.toNat = 95)

def wordsL : List Bs := [[115, 116, 114, 117, 99, 116], [101, 110, 117, 109], [102, 110], [108, 101, 116], [115, 97, 102, 101], [104, 111, 111, 107], [105, 110, 116], [98, 111, 120], [114, 101, 102], [109, 117, 116], [97, 100, 100], [115, 117, 98], [108, 101, 115, 115], [117, 115, 101], [110, 101, 119], [116, 97, 103], [111, 117, 116], [103, 111, 116, 111], [105, 102], [109, 97, 116, 99, 104], [99, 104, 101, 99, 107], [99, 97, 108, 108], [99, 97, 116, 99, 104], [114, 101, 116, 117, 114, 110]]
def intB : Bs := [105, 110, 116]
def boxB : Bs := [98, 111, 120, 32]
def refB : Bs := [114, 101, 102, 32]
def mutB : Bs := [109, 117, 116, 32]

def isWord (l : Bs) : Bool := wordsL.contains l
def isName (l : Bs) : Bool := !l.isEmpty && decide (l.length ≤ 16) && letterB (l.headD 0) && !isWord l && l.all innerB

/-- What stands in front is gone. -/
def fronted (w l : Bs) : Bool := w.isPrefixOf l

def strip : Bs → Bs × Nat
  | 98 :: 111 :: 120 :: 32 :: l => ((strip l).1, (strip l).2 + 1)
  | l => (l, 0)

def goodB (l : Bs) : Bool := decide (l = intB) || isName l
def plainI (l : Bs) : Bool := decide ((strip l).2 ≤ 8) && goodB (strip l).1
def frontI (l : Bs) : Nat × Bs := if fronted refB l then (4, l.drop 4) else if fronted mutB l then (5, l.drop 4) else (0, l)
def kindI (l : Bs) : Nat :=
  if !plainI (frontI l).2 then 0 else if (frontI l).1 ≠ 0 then (frontI l).1 else if (frontI l).2 = intB then 1 else if fronted boxB (frontI l).2 then 3 else 2
def elemI (l : Bs) : Bs × Bool := if kindI l < 3 then ([], false) else (l.drop 4, true)
def withI (w l : Bs) : Bs × Bool := if !plainI l || decide (kindI (w ++ l) = 0) then ([], false) else (w ++ l, true)
def baseI (l : Bs) : Bs × Bool := if kindI l = 0 then ([], false) else ((strip (frontI l).2).1, true)
def deepI (l : Bs) : Nat := if kindI l = 0 then 0 else (strip (frontI l).2).2

def restR (l w : Bs) : Bs × Bool := if w.length + 1 < l.length ∧ l.take (w.length + 1) = w ++ [32] then (l.drop (w.length + 1), true) else ([], false)
theorem restR_lt {l w s : Bs} (h : restR l w = (s, true)) : s.length < l.length := by
  unfold restR at h
  split at h
  · rename_i hc
    have := congrArg Prod.fst h
    dsimp only at this
    rw [← this, List.length_drop]
    omega
  · cases h
def plainR (l : Bs) : Nat × Bool :=
  if goodB l then (0, true) else
  match h : restR l [98, 111, 120] with
  | (s, true) => if !(plainR s).2 || decide ((plainR s).1 = 8) then (0, false) else ((plainR s).1 + 1, true)
  | (_, false) => (0, false)
termination_by l.length
decreasing_by all_goals exact restR_lt h

def kindR (l : Bs) : Nat :=
  if (plainR l).2 then (if l = intB then 1 else if isName l then 2 else 3)
  else if (restR l [114, 101, 102]).2 && (plainR (restR l [114, 101, 102]).1).2 then 4
  else if (restR l [109, 117, 116]).2 && (plainR (restR l [109, 117, 116]).1).2 then 5 else 0
def elemR (l : Bs) : Bs × Bool := if kindR l < 3 then ([], false) else (l.drop 4, true)
def withR (w l : Bs) : Bs × Bool := if !(plainR l).2 || (decide (w = [98, 111, 120]) && decide ((plainR l).1 = 8)) then ([], false) else (w ++ [32] ++ l, true)
def baseLoop : Nat → Bs → Bs
  | 0, l => l
  | f + 1, l => if 3 ≤ kindR l then baseLoop f (l.drop 4) else l
def baseR (l : Bs) : Bs × Bool := if kindR l = 0 then ([], false) else (baseLoop l.length l, true)
def deepR (l : Bs) : Nat := (plainR (if 3 < kindR l then l.drop 4 else l)).1

/-! ### The laws -/
theorem strip_box (l : Bs) : strip (boxB ++ l) = ((strip l).1, (strip l).2 + 1) := by
  show strip (98 :: 111 :: 120 :: 32 :: l) = _
  rw [strip]

theorem fronted_iff (w l : Bs) : fronted w l = true ↔ ∃ t, l = w ++ t := by
  unfold fronted
  rw [List.isPrefixOf_iff_prefix]
  exact ⟨fun ⟨t, h⟩ => ⟨t, h.symm⟩, fun ⟨t, h⟩ => ⟨t, h.symm⟩⟩

theorem strip_not {l : Bs} (h : fronted boxB l = false) : strip l = (l, 0) := by
  rw [strip]
  intro t ht
  rw [(fronted_iff boxB l).2 ⟨t, ht⟩] at h
  cases h

theorem not_inner32 : innerB 32 = false := by decide
theorem name_no_blank {l : Bs} (h : isName l = true) : (32 : UInt8) ∉ l := by
  intro hm
  unfold isName at h
  simp only [Bool.and_eq_true] at h
  have := List.all_eq_true.1 h.2 32 hm
  rw [not_inner32] at this
  cases this
theorem good_no_blank {l : Bs} (h : goodB l = true) : (32 : UInt8) ∉ l := by
  unfold goodB at h
  rw [Bool.or_eq_true] at h
  rcases h with h | h
  · rw [of_decide_eq_true h]; decide
  · exact name_no_blank h
theorem good_not_front {w l : Bs} (hw : (32 : UInt8) ∈ w) (h : goodB l = true) : fronted w l = false := by
  cases hf : fronted w l with
  | false => rfl
  | true =>
    obtain ⟨t, rfl⟩ := (fronted_iff w l).1 hf
    exact absurd (List.mem_append_left t hw) (good_no_blank h)
theorem good_strip {l : Bs} (h : goodB l = true) : strip l = (l, 0) := strip_not (good_not_front (by decide) h)
theorem good_plain {l : Bs} (h : goodB l = true) : plainI l = true := by
  unfold plainI
  rw [good_strip h, h]
  rfl
theorem not_front_two {l : Bs} {v w : Bs} (hv : fronted v l = true) (hl : v.length = w.length) (hne : v ≠ w) : fronted w l = false := by
  cases hf : fronted w l with
  | false => rfl
  | true =>
    obtain ⟨t, rfl⟩ := (fronted_iff v l).1 hv
    obtain ⟨u, hu⟩ := (fronted_iff w _).1 hf
    exact absurd (List.append_inj_left hu hl) hne

theorem nil_not_good : goodB [] = false := by decide
theorem restR_iff (w l : Bs) : restR l w = if fronted (w ++ [32]) l = true ∧ w.length + 1 < l.length then (l.drop (w.length + 1), true) else ([], false) := by
  unfold restR
  by_cases hf : fronted (w ++ [32]) l = true
  · obtain ⟨t, rfl⟩ := (fronted_iff _ _).1 hf
    by_cases hl : w.length + 1 < (w ++ [32] ++ t).length
    · rw [if_pos ⟨hl, by rw [List.take_append_of_le_length (by simp)]; rw [List.take_of_length_le (by simp)]⟩, if_pos ⟨hf, hl⟩]
    · rw [if_neg (fun h => hl h.1), if_neg (fun h => hl h.2)]
  · have h1 : ¬ (w.length + 1 < l.length ∧ l.take (w.length + 1) = w ++ [32]) := by
      rintro ⟨_, h2⟩
      exact hf ((fronted_iff _ _).2 ⟨l.drop (w.length + 1), by rw [← h2, List.take_append_drop]⟩)
    rw [if_neg h1, if_neg (fun h => hf h.1)]

theorem plainR_eq : ∀ (n : Nat) (l : Bs), l.length ≤ n → plainR l = if plainI l then ((strip l).2, true) else (0, false) := by
  intro n
  induction n with
  | zero =>
    intro l hl
    have : l = [] := List.eq_nil_of_length_eq_zero (by omega)
    subst this
    rw [plainR]
    simp [nil_not_good, restR, plainI, strip]
  | succ n ih =>
    intro l hl
    rw [plainR]
    by_cases hg : goodB l = true
    · rw [if_pos hg, good_plain hg, if_pos rfl, good_strip hg]
    · rw [if_neg hg]
      have hr := restR_iff [98, 111, 120] l
      by_cases hf : fronted boxB l = true
      · obtain ⟨t, rfl⟩ := (fronted_iff _ _).1 hf
        have hs := strip_box t
        by_cases ht : t = []
        · subst ht
          have hr2 : restR (boxB ++ []) [98, 111, 120] = ([], false) := by decide
          split
          · rename_i s h; rw [hr2] at h; cases h
          · unfold plainI
            rw [hs]
            simp [strip, nil_not_good]
        · have htl : 0 < t.length := List.length_pos_iff.2 ht
          have hr2 : restR (boxB ++ t) [98, 111, 120] = (t, true) := by
            rw [hr, if_pos ⟨hf, by simp [boxB]; omega⟩]
            rfl
          have hI := ih t (by simp [boxB] at hl; omega)
          split
          · rename_i s h
            rw [hr2] at h
            obtain rfl : t = s := congrArg Prod.fst h
            rw [hI]
            unfold plainI
            rw [hs]
            dsimp only
            cases hgs : goodB (strip t).1 with
            | false => simp
            | true =>
              by_cases h8 : (strip t).2 ≤ 8
              · by_cases h7 : (strip t).2 = 8
                · simp [h7]
                · have h9 : (strip t).2 + 1 ≤ 8 := by omega
                  simp [h8, h7, h9]
              · have h9 : ¬ (strip t).2 + 1 ≤ 8 := by omega
                simp [h8, h9]
          · rename_i s h; rw [hr2] at h; cases h
      · have hf' : fronted boxB l = false := by simpa using hf
        have hr2 : restR l [98, 111, 120] = ([], false) := by
          rw [hr, if_neg (fun h => hf h.1)]
        split
        · rename_i s h; rw [hr2] at h; cases h
        · unfold plainI
          rw [strip_not hf']
          simp at hg
          simp [hg]

theorem plainR_is (l : Bs) : plainR l = if plainI l then ((strip l).2, true) else (0, false) := plainR_eq l.length l (Nat.le_refl _)
theorem plainR_snd (l : Bs) : (plainR l).2 = plainI l := by rw [plainR_is]; cases plainI l <;> rfl
theorem plainI_nil : plainI [] = false := by decide

/-- A plain text does not begin with ref or mut. -/
theorem plain_not_front {w l : Bs} (hw : w = refB ∨ w = mutB) (h : fronted w l = true) : plainI l = false := by
  have hb : fronted boxB l = false := not_front_two h (by rcases hw with rfl | rfl <;> rfl) (by rcases hw with rfl | rfl <;> decide)
  unfold plainI
  rw [strip_not hb]
  cases hg : goodB l with
  | false => simp [hg]
  | true =>
    have := good_not_front (w := w) (l := l) (by rcases hw with rfl | rfl <;> decide) hg
    rw [h] at this; cases this

theorem rest_plain (w l : Bs) (hw : w.length = 3) : ((restR l w).2 && (plainR (restR l w).1).2) = (fronted (w ++ [32]) l && plainI (l.drop 4)) := by
  rw [restR_iff, hw]
  by_cases hf : fronted (w ++ [32]) l = true
  · by_cases hl : 3 + 1 < l.length
    · rw [if_pos ⟨hf, hl⟩, plainR_snd, hf]
    · rw [if_neg (fun h => hl h.2), hf]
      have : l.drop 4 = [] := List.drop_eq_nil_of_le (by omega)
      rw [this, plainI_nil]
      rfl
  · rw [if_neg (fun h => hf h.1)]
    simp at hf
    rw [hf]
    rfl

theorem kindR_eq (l : Bs) : kindR l = kindI l := by
  unfold kindR kindI
  rw [plainR_snd, rest_plain _ _ rfl, rest_plain _ _ rfl]
  show (if plainI l = true then _ else if (fronted refB l && plainI (l.drop 4)) = true then 4 else if (fronted mutB l && plainI (l.drop 4)) = true then 5 else 0) = _
  unfold frontI
  by_cases hr : fronted refB l = true
  · rw [if_pos hr, plain_not_front (Or.inl rfl) hr, hr]
    have hm : fronted mutB l = false := not_front_two hr rfl (by decide)
    rw [hm]
    cases plainI (l.drop 4) <;> simp
  · rw [if_neg hr]
    simp at hr
    rw [hr]
    by_cases hm : fronted mutB l = true
    · rw [if_pos hm, plain_not_front (Or.inr rfl) hm, hm]
      cases plainI (l.drop 4) <;> simp
    · rw [if_neg hm]
      simp at hm
      rw [hm]
      cases hp : plainI l with
      | false => simp
      | true =>
        simp only [if_true, Bool.not_true, Bool.false_eq_true, if_false, ne_eq, not_true_eq_false]
        by_cases hi : l = intB
        · rw [if_pos hi, if_pos hi]
        · rw [if_neg hi, if_neg hi]
          by_cases hn : isName l = true
          · rw [if_pos hn, if_neg]
            rw [good_not_front (by decide) (by unfold goodB; rw [hn]; simp)]
            simp
          · rw [if_neg hn, if_pos]
            cases hb : fronted boxB l with
            | true => rfl
            | false =>
              unfold plainI goodB at hp
              rw [strip_not hb] at hp
              simp [hi, hn] at hp

theorem elemR_eq (l : Bs) : elemR l = elemI l := by unfold elemR elemI; rw [kindR_eq]

theorem kind_cases (l : Bs) : kindI l = 0 ∨ (kindI l = 1 ∧ l = intB) ∨ (kindI l = 2 ∧ isName l = true ∧ fronted boxB l = false ∧ plainI l = true) ∨ (kindI l = 3 ∧ ∃ t, l = boxB ++ t ∧ plainI l = true) ∨ (kindI l = 4 ∧ ∃ t, l = refB ++ t ∧ plainI t = true) ∨ (kindI l = 5 ∧ ∃ t, l = mutB ++ t ∧ plainI t = true) := by
  unfold kindI frontI
  by_cases hr : fronted refB l = true
  · rw [if_pos hr]
    obtain ⟨t, rfl⟩ := (fronted_iff _ _).1 hr
    have hd : (refB ++ t).drop 4 = t := rfl
    rw [hd]
    cases hp : plainI t with
    | false => exact Or.inl (by simp [hp])
    | true => exact Or.inr (Or.inr (Or.inr (Or.inr (Or.inl ⟨by simp [hp], t, rfl, hp⟩))))
  · rw [if_neg hr]
    by_cases hm : fronted mutB l = true
    · rw [if_pos hm]
      obtain ⟨t, rfl⟩ := (fronted_iff _ _).1 hm
      have hd : (mutB ++ t).drop 4 = t := rfl
      rw [hd]
      cases hp : plainI t with
      | false => exact Or.inl (by simp [hp])
      | true => exact Or.inr (Or.inr (Or.inr (Or.inr (Or.inr ⟨by simp [hp], t, rfl, hp⟩))))
    · rw [if_neg hm]
      dsimp only
      cases hp : plainI l with
      | false => exact Or.inl (by simp)
      | true =>
        by_cases hi : l = intB
        · exact Or.inr (Or.inl ⟨by simp [hi], hi⟩)
        · by_cases hb : fronted boxB l = true
          · obtain ⟨t, ht⟩ := (fronted_iff _ _).1 hb
            exact Or.inr (Or.inr (Or.inr (Or.inl ⟨by simp [hi, hb], t, ht, rfl⟩)))
          · simp at hb
            refine Or.inr (Or.inr (Or.inl ⟨by simp [hi, hb], ?_, hb, rfl⟩))
            unfold plainI goodB at hp
            rw [strip_not hb] at hp
            simpa [hi] using hp

theorem kind_plain {l : Bs} (h : plainI l = true) : kindI l = if l = intB then 1 else if fronted boxB l then 3 else 2 := by
  have hr : fronted refB l = false := by
    cases hf : fronted refB l with
    | false => rfl
    | true => rw [plain_not_front (Or.inl rfl) hf] at h; cases h
  have hm : fronted mutB l = false := by
    cases hf : fronted mutB l with
    | false => rfl
    | true => rw [plain_not_front (Or.inr rfl) hf] at h; cases h
  unfold kindI frontI
  simp [hr, hm, h]
theorem front_plain {l : Bs} (h : plainI l = true) : frontI l = (0, l) := by
  have hr : fronted refB l = false := by
    cases hf : fronted refB l with
    | false => rfl
    | true => rw [plain_not_front (Or.inl rfl) hf] at h; cases h
  have hm : fronted mutB l = false := by
    cases hf : fronted mutB l with
    | false => rfl
    | true => rw [plain_not_front (Or.inr rfl) hf] at h; cases h
  unfold frontI
  simp [hr, hm]
theorem plain_box {t : Bs} : plainI (boxB ++ t) = (decide ((strip t).2 + 1 ≤ 8) && goodB (strip t).1) := by
  unfold plainI
  rw [strip_box]
theorem plain_of_box {t : Bs} (h : plainI (boxB ++ t) = true) : plainI t = true := by
  rw [plain_box] at h
  unfold plainI
  simp at h ⊢
  exact ⟨by omega, h.2⟩

theorem baseLoop_plain : ∀ (f : Nat) (l : Bs), plainI l = true → l.length ≤ f → baseLoop f l = (strip l).1 := by
  intro f
  induction f with
  | zero =>
    intro l hp hl
    have : l = [] := List.eq_nil_of_length_eq_zero (by omega)
    subst this
    rw [plainI_nil] at hp; cases hp
  | succ f ih =>
    intro l hp hl
    unfold baseLoop
    rw [kindR_eq, kind_plain hp]
    by_cases hb : fronted boxB l = true
    · obtain ⟨t, rfl⟩ := (fronted_iff _ _).1 hb
      rw [if_neg (show ¬ boxB ++ t = intB from fun h => by have := congrArg List.head? h; simp [boxB, intB] at this), if_pos hb, if_pos (by omega), strip_box]
      show baseLoop f t = _
      exact ih t (plain_of_box hp) (by simp [boxB] at hl; omega)
    · simp at hb
      rw [strip_not hb, hb]
      by_cases hi : l = intB
      · simp [hi]
      · simp [hi]

theorem baseR_eq (l : Bs) : baseR l = baseI l := by
  unfold baseR baseI
  rw [kindR_eq]
  rcases kind_cases l with h | ⟨h, hl⟩ | ⟨h, hn, hb, hp⟩ | ⟨h, t, hl, hp⟩ | ⟨h, t, rfl, hp⟩ | ⟨h, t, rfl, hp⟩
  · rw [if_pos h, if_pos h]
  · have hp : plainI l = true := by rw [hl]; decide
    rw [if_neg (by omega), if_neg (by omega), baseLoop_plain _ _ hp (Nat.le_refl _), front_plain hp]
  · rw [if_neg (by omega), if_neg (by omega), baseLoop_plain _ _ hp (Nat.le_refl _), front_plain hp]
  · rw [if_neg (by omega), if_neg (by omega), baseLoop_plain _ _ hp (Nat.le_refl _), front_plain hp]
  · rw [if_neg (by omega), if_neg (by omega)]
    have hf : frontI (refB ++ t) = (4, t) := by
      unfold frontI; rw [if_pos ((fronted_iff _ _).2 ⟨t, rfl⟩)]; rfl
    rw [hf]
    have hlen : (refB ++ t).length = t.length + 3 + 1 := by simp [refB]
    rw [hlen]
    unfold baseLoop
    rw [kindR_eq, h, if_pos (by omega)]
    show (baseLoop (t.length + 3) t, true) = _
    rw [baseLoop_plain _ _ hp (by omega)]
  · rw [if_neg (by omega), if_neg (by omega)]
    have hm : fronted mutB (mutB ++ t) = true := (fronted_iff _ _).2 ⟨t, rfl⟩
    have hr : fronted refB (mutB ++ t) = false := not_front_two hm rfl (by decide)
    have hf : frontI (mutB ++ t) = (5, t) := by
      unfold frontI; rw [hr, hm]; rfl
    rw [hf]
    have hlen : (mutB ++ t).length = t.length + 3 + 1 := by simp [mutB]
    rw [hlen]
    unfold baseLoop
    rw [kindR_eq, h, if_pos (by omega)]
    show (baseLoop (t.length + 3) t, true) = _
    rw [baseLoop_plain _ _ hp (by omega)]

theorem deepR_eq (l : Bs) : deepR l = deepI l := by
  unfold deepR deepI
  rw [kindR_eq]
  rcases kind_cases l with h | ⟨h, hl⟩ | ⟨h, hn, hb, hp⟩ | ⟨h, t, hl, hp⟩ | ⟨h, t, rfl, hp⟩ | ⟨h, t, rfl, hp⟩
  · rw [h, if_neg (show ¬ 3 < 0 by omega), if_pos rfl, plainR_is]
    cases hp : plainI l with
    | false => simp
    | true => have := kind_plain hp; rw [h] at this; split at this <;> (try split at this) <;> omega
  · have hp : plainI l = true := by rw [hl]; decide
    rw [h, if_neg (show ¬ 3 < 1 by omega), if_neg (show ¬ 1 = 0 by omega), plainR_is, hp, front_plain hp]; rfl
  · rw [h, if_neg (show ¬ 3 < 2 by omega), if_neg (show ¬ 2 = 0 by omega), plainR_is, hp, front_plain hp]; rfl
  · rw [h, if_neg (show ¬ 3 < 3 by omega), if_neg (show ¬ 3 = 0 by omega), plainR_is, hp, front_plain hp]; rfl
  · have hf : frontI (refB ++ t) = (4, t) := by
      unfold frontI; rw [if_pos ((fronted_iff _ _).2 ⟨t, rfl⟩)]; rfl
    rw [h, if_pos (show 3 < 4 by omega), if_neg (show ¬ 4 = 0 by omega), hf]
    show (plainR t).1 = _
    rw [plainR_is, hp]; rfl
  · have hm : fronted mutB (mutB ++ t) = true := (fronted_iff _ _).2 ⟨t, rfl⟩
    have hr : fronted refB (mutB ++ t) = false := not_front_two hm rfl (by decide)
    have hf : frontI (mutB ++ t) = (5, t) := by
      unfold frontI; rw [hr, hm]; rfl
    rw [h, if_pos (show 3 < 5 by omega), if_neg (show ¬ 5 = 0 by omega), hf]
    show (plainR t).1 = _
    rw [plainR_is, hp]; rfl
end Go.Proofs.YtpodeccpibnlbaaGreatDoor
