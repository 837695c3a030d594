/- The contract over 'RepS' of slab's Clone. -/
import Derived.Test.YtpgoogjaoffdoaaClone2
namespace Go.Proofs.Ytpgoogjaoffdoaa
set_option linter.unusedVariables false
set_option linter.unusedSimpArgs false
open Go.RowKit

def NewRep (w : World) (s : SS) (w' : World) : Prop := ∃ own', Rep w' w.heap.size s own' ∧ (∀ x, own' x ≠ none → w.heap.size ≤ x) ∧ Mod (fun _ => False) w w' ∧ w.heap.size < w'.heap.size

theorem clone_calls {w : World} {b : Nat} {s : SS} {own : Nat → Option Rl} {L : Lo} {N : Nat} (h : RepS w b s own L) (hW : s.WF N) :
    Calls Try.prog 13 #[.pointer (some ⟨b, 0, none⟩)] w fun e w' => e = .returned (.pointer (some ⟨w.heap.size, 0, none⟩)) ∧ NewRep w s w' := by
  have hN := hW.bound
  have hQ : s.places.length = L.Q.length := by rw [h.pls, List.length_map]
  have hnp := hW.nplaces
  have hpl : ∀ (j : Nat) (q : LP), L.Q[j]? = some q → s.places[j]? = some q.pl := fun j q hq => by rw [h.pls, List.getElem?_map, hq]; rfl
  refine (clone_walk b w _ _ _ L.gp L.cp L.gf s.free.length L.cf (encN s.free) L.Q h.base h.fre h.plc (encN_one _) (by have := SS.free_len hW; omega) (by omega)
    (fun j q hq => ⟨h.siz j q hq, by have := hW.nsizes j _ (hpl j q hq); omega⟩) (fun j q hq => ⟨h.cel j q hq, ?_⟩)).mono ?_
  · have hc := hW.cells j _ (hpl j q hq)
    have hh := hW.has j _ (hpl j q hq)
    split at hc
    · omega
    · rw [hc, List.getLast?_eq_some_getLast hh]
      have := (hW.small j _ (hpl j q hq) _ (List.getLast_mem hh)).2
      simp only [Option.getD_some]
      omega
  · rintro e w' ⟨rfl, gp', cp', gf', cf', Q, own', hI⟩
    have hl : Q.length = L.Q.length := by have := congrArg List.length hI.pls; simpa using this
    have hlt : ∀ (j : Nat) (q : LP), Q[j]? = some q → j < L.Q.length := fun j q hq => by have := (List.getElem?_eq_some_iff.1 hq).1; omega
    refine ⟨rfl, own', ⟨⟨gp', cp', gf', cf', Q⟩, ?_, ?_, hI.ob, ?_, ?_, hI.op, hI.fre, hI.of, fun j q hq => hI.siz j q (hlt j q hq) hq, fun j q hq => hI.osz j q (hlt j q hq) hq, fun j q hq => hI.cel j q (hlt j q hq) hq, fun j q hq => hI.oce j q (hlt j q hq) hq⟩, fun x hx => (hI.dom x hx).1, hI.mod, ?_⟩
    · exact fun x hx => (hI.dom x hx).2
    · rw [hI.base, ← hl]; rfl
    · rw [h.pls, hI.pls]
    · have := hI.plc
      rw [← hl] at this
      exact this
    · exact (hI.dom _ (by rw [hI.ob]; simp)).2
end Go.Proofs.Ytpgoogjaoffdoaa
