/- The document's slab: a new row of free indexes, in memory. -/
import Derived.Test.YtpgoogjaoffdoaaRef11
import Derived.Test.YtpgoogjaoffdoaaM5
namespace Go.Proofs.Ytpgoogjaoffdoaa
set_option linter.unusedVariables false
set_option linter.unusedSimpArgs false
open Go.RowKit

theorem encN_append (l : List Nat) (n : Nat) : encN (l ++ [n]) = encN l ++ [.int .i64 (n : Int)] := by simp [encN]
theorem encN_ones (l : List Nat) : ∀ u ∈ encN l, u.oneCell' = true := by
  intro u hu
  simp [encN] at hu
  obtain ⟨x, _, rfl⟩ := hu
  rfl

theorem RRepS.newFree {w : World} {b : Nat} {r : RSS} {own : Nat → Option Rr} {L : RLo} (h : RRepS w b r own L) {g' c' : Nat} {fr : List Nat} (hS : Sl w 3 1 (some g') fr.length c' (encN fr)) (hg' : own g' = none) :
    RRepS (w.setCell ⟨b, 2, none⟩ (.slice (some ⟨g', 0, none⟩) fr.length c')) b { r with fre := fr } (fun k => if k = g' then some .fre else own k) { L with gf := some g', cf := c' } := by
  have hbg : b ≠ g' := fun e => by rw [← e, h.ob] at hg'; cases hg'
  have hblk : ∀ k, k ≠ b → (w.setCell ⟨b, 2, none⟩ (.slice (some ⟨g', 0, none⟩) fr.length c')).heap[k]? = w.heap[k]? := fun k h1 => Below.heap_setCell _ _ _ _ h1
  have hne : ∀ {k : Nat} {x : Rr}, own k = some x → k ≠ g' := fun hk e => by rw [e, hg'] at hk; cases hk
  have hown : ∀ {k : Nat} {x : Rr}, own k = some x → (if k = g' then some Rr.fre else own k) = some x := fun hk => by rw [if_neg (hne hk)]; exact hk
  refine ⟨?_, ?_, hown h.ob, h.pcs, ?_, fun g hg => hown (h.op g hg), ?_, ?_, ?_, fun i q hq g hg => hown (h.ov i q hq g hg), ?_, fun i q hq g hg => hown (h.oh i q hq g hg)⟩
  · intro k hk
    by_cases e : k = g'
    · rw [e]; simpa using hS.lt rfl
    · rw [if_neg e] at hk; simpa using h.dom k hk
  · rw [heap_setCell_at h.base]
    simp [rCells, sv]
  · exact h.plc.keep fun g hg => hblk g (rr_ne (h.op g hg) h.ob (by simp))
  · exact hS.keep fun g hg => hblk g (by obtain rfl := Option.some.inj hg; exact hbg.symm)
  · intro g hg
    obtain rfl := Option.some.inj hg
    simp
  · exact fun i q hq => (h.val i q hq).keep fun g hg => hblk g (rr_ne (h.ov i q hq g hg) h.ob (by simp))
  · exact fun i q hq => (h.has i q hq).keep fun g hg => hblk g (rr_ne (h.oh i q hq g hg) h.ob (by simp))
end Go.Proofs.Ytpgoogjaoffdoaa
