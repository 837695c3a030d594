/- SlabCalls: what its loop keeps. -/
import Derived.Test.YtpgoogjaoffdoaaDo

namespace Go.Proofs.Ytpgoogjaoffdoaa
set_option linter.unusedVariables false
set_option linter.unusedSimpArgs false
open Go.RowKit

theorem adr_block (x : Addr) (k : Nat) : (x.add k).block = x.block := by unfold Addr.add; split <;> rfl

/-- A row of calls that came in. -/
structure Arg4 (w : World) (oa : Option Addr) (len cap : Nat) : Prop where
  hle : len ≤ cap
  hmax : cap ≤ maxLen
  at' : ∀ i, i < len → ∃ (x : Addr) (wh of n : Int) (y : Nat), oa = some x ∧ x.block < w.heap.size ∧ w.cell? (x.add (i * 4)) = some (.int .i64 wh) ∧ w.cell? (x.add (i * 4 + 1)) = some (.int .i64 of) ∧ w.cell? (x.add (i * 4 + 2)) = some (.int .i64 n) ∧ w.cell? (x.add (i * 4 + 3)) = some (.int .u64 (y : Int)) ∧
    -9223372036854775808 ≤ of ∧ of ≤ 9223372036854775807 ∧ -9223372036854775808 ≤ n ∧ n ≤ 9223372036854775807 ∧ y < 18446744073709551616

theorem Arg4.mod {w w' : World} {oa : Option Addr} {len cap : Nat} (h : Arg4 w oa len cap) (hM : Mod (fun _ => False) w w') : Arg4 w' oa len cap := by
  refine ⟨h.hle, h.hmax, fun i hi => ?_⟩
  obtain ⟨x, wh, of, n, y, h1, h2, h3, h4, h5, h6, h7⟩ := h.at' i hi
  have hs := hM.size
  have key : ∀ k v, w.cell? (x.add k) = some v → w'.cell? (x.add k) = some v := fun k v hv => by
    rw [← hv]
    exact World.cell?_of_block (hM.block _ (by rw [adr_block]; exact h2) (fun h => h))
  exact ⟨x, wh, of, n, y, h1, by omega, key _ _ h3, key _ _ h4, key _ _ h5, key _ _ h6, h7⟩

structure LI (W w : World) (b1 b2 x N : Nat) (s : SS) (r : RSS) (own1 : Nat → Option Rl) (own2 : Nat → Option Rr) (g c : Nat) (L : List Nat) : Prop where
  pair : Pair w b1 s own1 b2 r own2
  st : St s r N
  gt : Gt w x g c L own1 own2
  few : L.length ≤ N
  old1 : ∀ k, own1 k ≠ none → W.heap.size ≤ k
  old2 : ∀ k, own2 k ≠ none → W.heap.size ≤ k
  oldx : W.heap.size ≤ x
  oldg : W.heap.size ≤ g
  mod : Mod (fun _ => False) W w

section
variable {W w w' : World} {b1 b2 x N : Nat} {s s' : SS} {r r' : RSS} {own1 own1' : Nat → Option Rl} {own2 own2' : Nat → Option Rr} {g g' c c' : Nat} {L L' : List Nat}

theorem LI.next (h : LI W w b1 b2 x N s r own1 own2 g c L) (hD : Done w b1 b2 x g own1 own2 N w' s' r' own1' own2' g' c' L') : LI W w' b1 b2 x (N + 1) s' r' own1' own2' g' c' L' := by
  have hs := h.mod.size
  refine ⟨hD.pair, hD.st, hD.gt, hD.few, fun k hk => ?_, fun k hk => ?_, h.oldx, ?_, ?_⟩
  · rcases hD.o1 k hk with h1 | h1
    · exact h.old1 k h1
    · omega
  · rcases hD.o2 k hk with h1 | h1
    · exact h.old2 k h1
    · omega
  · rcases hD.og with h1 | h1
    · rw [h1]; exact h.oldg
    · omega
  · refine h.mod.trans hD.mod ?_
    rintro k (hk | hk | rfl | rfl)
    · exact Or.inr (h.old1 k hk)
    · exact Or.inr (h.old2 k hk)
    · exact Or.inr h.oldx
    · exact Or.inr h.oldg

theorem LI.same (h : LI W w b1 b2 x N s r own1 own2 g c L) (hM : Mod (fun _ => False) w w') : LI W w' b1 b2 x N s r own1 own2 g c L :=
  ⟨h.pair.mod hM (fun _ h => h.elim), h.st, h.gt.mod hM, h.few, h.old1, h.old2, h.oldx, h.oldg, h.mod.trans hM (fun _ h => h.elim)⟩

/-- Both copies, beside the two that they were made of. -/
theorem LI.copies (h : LI W w b1 b2 x N s r own1 own2 g c L) {wc wd : World} (hn : NewRep w s wc) {y : Nat} (hc : Copied wc y r wd) :
    ∃ ownC ownR, Pair wd w.heap.size s ownC y r ownR ∧ Gt wd x g c L ownC ownR ∧ (∀ k, ownC k ≠ none → w.heap.size ≤ k) ∧ (∀ k, ownR k ≠ none → w.heap.size ≤ k) ∧ Mod (fun _ => False) w wd := by
  obtain ⟨ownC, hrC, hgC, hMC, hlt⟩ := hn
  obtain ⟨ownR, LR, hrR, hgR, hMR⟩ := hc
  have hs := hMC.size
  have hM := hMC.trans hMR (fun _ h => h.elim)
  have hg := h.gt.mod hM
  have hxl : x < w.heap.size := (Array.getElem?_eq_some_iff.1 h.gt.box).1
  have hgl : g < w.heap.size := h.gt.row.lt rfl
  have nC : ∀ k, k < w.heap.size → ownC k = none := fun k hk => by
    cases e : ownC k with
    | none => rfl
    | some z => have := hgC k (by rw [e]; simp); omega
  have nR : ∀ k, k < wc.heap.size → ownR k = none := fun k hk => by
    cases e : ownR k with
    | none => rfl
    | some z => have := hgR k (by rw [e]; simp); omega
  refine ⟨ownC, ownR, ⟨hrC.keep hMR.size fun k hk => hMR.block k (hrC.dom k hk) (fun h => h), ⟨LR, hrR⟩, fun k hk => nR k (hrC.dom k hk)⟩,
    ⟨hg.box, hg.row, nC x hxl, nR x (by omega), nC g hgl, nR g (by omega), h.gt.ne, h.gt.small⟩, hgC, fun k hk => by have := hgR k hk; omega, hM⟩

/-- Behind a call on the copies the two stand as they stood. -/
theorem LI.beside (h : LI W w b1 b2 x N s r own1 own2 g c L) {wd wz : World} {c1 c2 : Nat} {ownC ownC' : Nat → Option Rl} {ownR ownR' : Nat → Option Rr} (hM : Mod (fun _ => False) w wd) (oC : ∀ k, ownC k ≠ none → w.heap.size ≤ k) (oR : ∀ k, ownR k ≠ none → w.heap.size ≤ k)
    {sz : SS} {rz : RSS} {gz cz : Nat} {Lz : List Nat} (hD : Done wd c1 c2 x g ownC ownR N wz sz rz ownC' ownR' gz cz Lz) : Rep wz b1 s own1 ∧ RRep wz b2 r own2 ∧ Mod (fun _ => False) W wz := by
  have hs := hM.size
  have k1 : ∀ k, own1 k ≠ none → wz.heap[k]? = w.heap[k]? := fun k hk => by
    have hkl := h.pair.r1.dom k hk
    rw [hD.mod.block k (by omega) ?_, hM.block k hkl (fun h => h)]
    rintro (e | e | rfl | rfl)
    · have := oC k e; omega
    · have := oR k e; omega
    · exact hk h.gt.x1
    · exact hk h.gt.g1
  have k2 : ∀ k, own2 k ≠ none → wz.heap[k]? = w.heap[k]? := fun k hk => by
    have hkl := h.pair.r2.dom k hk
    rw [hD.mod.block k (by omega) ?_, hM.block k hkl (fun h => h)]
    rintro (e | e | rfl | rfl)
    · have := oC k e; omega
    · have := oR k e; omega
    · exact hk h.gt.x2
    · exact hk h.gt.g2
  have hsz := hD.mod.size
  have hsW := h.mod.size
  refine ⟨h.pair.r1.keep (by omega) k1, h.pair.r2.keep (by omega) k2, (h.mod.trans hM (fun _ h => h.elim)).trans hD.mod ?_⟩
  rintro k (e | e | rfl | rfl)
  · have := oC k e; exact Or.inr (by omega)
  · have := oR k e; exact Or.inr (by omega)
  · exact Or.inr h.oldx
  · exact Or.inr h.oldg
end
end Go.Proofs.Ytpgoogjaoffdoaa
