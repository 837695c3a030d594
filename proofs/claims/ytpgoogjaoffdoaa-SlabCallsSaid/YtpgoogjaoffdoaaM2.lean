/- Memory words, more: an append as one step of a region that draws its order; small steps of a row and of a world. -/
import Derived.Test.YtpgoogjaoffdoaaM
import Derived.Deep.RegionLaw
import Derived.Deep.AppendLies
import Derived.BigQuiet
import Derived.Deep.QuietTactic
import Derived.Deep.RegionHeld3
import Derived.Deep.DeepCutAuto
import Derived.Deep.CutBlock
namespace Go.Proofs.Ytpgoogjaoffdoaa
set_option linter.unusedVariables false
set_option linter.unusedSimpArgs false
open Go.RowKit

theorem step_append_sl {P : Program} {ops : Array Oper} {o : Oper} {a : Act} {w : World} {K : Act → World → Prop} {Q : Exit → Act → World → Prop} {E : Prop}
    (hg : o.guard = none) (s x : Operand) (t : TypeId) (hop : o.op = Op.call { callee := Callee.builtin Builtin.append, args := #[s, x], argTypes := #[t, t] })
    (e : TypeId) (i : TypeInfo) (z : Value) (size bytes : Nat) (ht : P.underlying t = some (.slice e)) (hi : P.info? e = some i) (hz : i.zero = some z)
    (hsize : i.size = size) (hby : i.bytes = bytes) (hzs : z.cells.size = size) (hsz : 0 < size)
    (og : Option Nat) (n c : Nat) (xs : List Value) (hsv : a.eval s = sv og n c) (hs : Sl w e size og n c xs)
    (ad : Addr) (m cx : Nat) (news : List Value) (hx : a.eval x = .slice (some ad) m cx) (hl : news.length = m * size) (hnews : ∀ j u, news[j]? = some u → w.cell? (ad.add j) = some u) (h1 : ∀ u ∈ news, u.oneCell' = true)
    (hm : 0 < m) (h63 : n + m ≤ maxLen) (hbytes : (n + m) * bytes ≤ 140737488355328)
    (hK : ∀ g' c' w', Sl w' e size (some g') (n + m) c' (xs ++ news) → (some g' = og ∨ w.heap.size ≤ g') → Mod (fun k => some k = og) w w' →
      K (a.put o.dst (.slice (some ⟨g', 0, none⟩) (n + m) c')) w') :
    if Region.wanted o (yielded ops a.tmps) = true then Oper.wp P o a w K Q else E := by
  have hw : Region.wanted o (yielded ops a.tmps) = true := by simp [Region.wanted, hg]
  rw [if_pos hw]
  obtain ⟨g', c', w', hrun, r1, r2, r3⟩ := run_append_sl (P := P) w t o.type e i z size bytes ht hi hz hsize hby hzs hsz og n c xs hs ad m cx news hl hnews h1 hm h63 hbytes
  unfold Oper.wp
  simp [execOp, hop, resolve, invoke, builtin, hsv, hx, hrun, Result.andThen]
  exact hK g' c' w' r1 r2 r3

theorem heap_setCell_at {w : World} {b o : Nat} {v : Value} {cur : Array Value} {e : TypeId} {fr : Nat × Nat} (h : w.heap[b]? = some (.cells cur e fr)) :
    (w.setCell ⟨b, o, none⟩ v).heap[b]? = some (.cells (cur.setIfInBounds o v) e fr) := by
  simp [World.setCell, Array.getElem?_modify, h]

theorem Sl.drew {w : World} {e size : Nat} {og : Option Nat} {n c : Nat} {xs : List Value} (h : Sl w e size og n c xs) : Sl w.drew e size og n c xs := h.keep fun _ _ => rfl
theorem Sl.alloc {w : World} {e size : Nat} {og : Option Nat} {n c : Nat} {xs : List Value} (h : Sl w e size og n c xs) (o : Obj) : Sl (w.alloc o) e size og n c xs :=
  h.keep fun _ hg => Below.heap_alloc w o _ (h.lt hg)
theorem Sl.setCell {w : World} {e size : Nat} {og : Option Nat} {n c : Nat} {xs : List Value} (h : Sl w e size og n c xs) (a : Addr) (v : Value) (ha : og ≠ some a.block) : Sl (w.setCell a v) e size og n c xs :=
  h.keep fun _ hg => Below.heap_setCell w a v _ (fun e => ha (by rw [hg, e]))
end Go.Proofs.Ytpgoogjaoffdoaa
