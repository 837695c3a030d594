/- The document's slab: Get, the ways that get nothing; what the index of a new piece leaves. -/
import Derived.Test.YtpgoogjaoffdoaaRef14
import Derived.Deep.QuietTactic
import Derived.BigQuiet
namespace Go.Proofs.Ytpgoogjaoffdoaa
set_option linter.unusedVariables false
set_option linter.unusedSimpArgs false
open Go.RowKit

theorem RRepS.heap {w w' : World} {b : Nat} {r : RSS} {own : Nat → Option Rr} {L : RLo} (h : RRepS w b r own L) (hh : w'.heap = w.heap) : RRepS w' b r own L :=
  h.keep (by rw [hh]; exact Nat.le_refl _) (fun k _ => by rw [hh])

theorem RRepS.setNext {w : World} {b : Nat} {r : RSS} {own : Nat → Option Rr} {L : RLo} (h : RRepS w b r own L) (m : Nat) :
    RRepS (w.setCell ⟨b, 3, none⟩ (.int .i64 (m : Int))) b { r with next := m } own L := by
  have hblk : ∀ k, k ≠ b → (w.setCell ⟨b, 3, none⟩ (.int .i64 (m : Int))).heap[k]? = w.heap[k]? := fun k h1 => Below.heap_setCell _ _ _ _ h1
  refine ⟨fun k hk => by simpa using h.dom k hk, ?_, h.ob, h.pcs, ?_, h.op, ?_, h.of, ?_, h.ov, ?_, h.oh⟩
  · rw [heap_setCell_at h.base]
    simp [rCells]
  · exact h.plc.keep fun g hg => hblk g (rr_ne (h.op g hg) h.ob (by simp))
  · exact h.fre.keep fun g hg => hblk g (rr_ne (h.of g hg) h.ob (by simp))
  · exact fun i q hq => (h.val i q hq).keep fun g hg => hblk g (rr_ne (h.ov i q hq g hg) h.ob (by simp))
  · exact fun i q hq => (h.has i q hq).keep fun g hg => hblk g (rr_ne (h.oh i q hq g hg) h.ob (by simp))

set_option maxRecDepth 100000 in
theorem RSS.used_le {r : RSS} {N : Nat} (hO : r.Ok N) : r.used ≤ N * 4095 := by
  have : ∀ ps : List RPc, (∀ p ∈ ps, p.vals.length ≤ 4095) → (ps.map fun p => if p.freed = true then 0 else p.vals.length).sum ≤ ps.length * 4095 := by
    intro ps
    induction ps with
    | nil => simp
    | cons p ps ih =>
      intro h
      have h1 := ih (fun q hq => h q (by simp [hq]))
      have h2 := h p (by simp)
      simp only [List.map_cons, List.sum_cons, List.length_cons]
      split <;> omega
  have h1 := this r.pcs (fun p hp => (hO.len p hp).1)
  have h2 := hO.many
  unfold RSS.used
  omega

/-- Where the index of the new piece is known. -/
def RSS.idx (r : RSS) : Nat := r.fre.getLast?.getD r.next
def RSS.took (r : RSS) : RSS := { r with fre := r.fre.dropLast, next := if r.fre = [] then r.next + 1 else r.next }
def GotIdx (w : World) (b : Nat) (own : Nat → Option Rr) (r2 : RSS) (wc : World) : Prop :=
  ∃ own2 L2, RRepS wc b r2 own2 L2 ∧ (∀ k, own2 k ≠ none → own k ≠ none ∨ w.heap.size ≤ k) ∧ Mod (Dom own) w wc

set_option maxRecDepth 100000 in
set_option maxHeartbeats 4000000 in
theorem rget_bad {w : World} {b : Nat} (n : Int) (h : n < 1 ∨ 4095 < n) :
    Calls Try.prog 25 #[.pointer (some ⟨b, 0, none⟩), .int .i64 n] w fun e w' => e = .returned (.tuple #[.int .u64 0, .int .i64 11]) ∧ w' = w := by
  by_cases h1 : n < 1
  · clear h
    go_enter Try.func25, Try.ntmps25
    go_wp2
    go_ret2
    exact ⟨rfl, rfl⟩
  · have h2 : 4095 < n := by omega
    clear h
    go_enter Try.func25, Try.ntmps25
    go_wp2
    go_ret2
    exact ⟨rfl, rfl⟩

set_option maxRecDepth 100000 in
set_option maxHeartbeats 4000000 in
theorem rget_full {w : World} {b : Nat} {r : RSS} {own : Nat → Option Rr} {L : RLo} {N : Nat} (h : RRepS w b r own L) (hO : r.Ok N) (hR : r.room ≤ 16384) (n : Int) (h1 : 1 ≤ n) (h2 : n ≤ 4095) (hf : (r.room : Int) < r.used + n) :
    Calls Try.prog 25 #[.pointer (some ⟨b, 0, none⟩), .int .i64 n] w fun e w' => e = .returned (.tuple #[.int .u64 0, .int .i64 13]) ∧ Mod (fun _ => False) w w' := by
  have H : Hd (∀ w', w'.heap = w.heap → RRepS w' b r own L) := ⟨fun w' hh => h.heap hh⟩
  have HO : Hd _ := ⟨hO⟩
  have hu := RSS.used_le hO
  have hb := hO.bound
  obtain ⟨c0, c1, c2, c3⟩ := h.cells
  obtain ⟨u, hu0⟩ : ∃ u, r.used = u := ⟨_, rfl⟩
  have HU : Hd _ := ⟨hu0⟩
  rw [hu0] at hf hu
  have HC : Hd (∀ m, Calls Try.prog 34 #[.pointer (some ⟨b, 0, none⟩)] (w.drewN m) fun e w' => e = .returned (.int .i64 (u : Int)) ∧ w' = w.drewN m) := ⟨fun m => (rused_calls (H.out (w.drewN m) rfl) HO.out).mono fun e w' h => ⟨by rw [h.1, hu0], h.2.symm⟩⟩
  clear h hO c1 c2 c3 hu0
  go_enter Try.func25, Try.ntmps25
  go_upto_region 3 with fail
  go_quiet (first | (go_at_call 34; exact Calls.quiet_of_same (HC.out _)))
  go_wp2
  exact bodyPost_ret (v := .tuple #[.int .u64 0, .int .i64 13]) (by simp [results, Try.f25, go_sem]) rfl ⟨rfl, ⟨rfl, rfl, rfl, Nat.le_refl _, fun _ _ _ => rfl⟩⟩

theorem RSS.fits {r : RSS} {N : Nat} (hO : r.Ok N) : r.used ≤ 4294967296 := by
  have := RSS.used_le hO
  have := hO.bound
  omega
end Go.Proofs.Ytpgoogjaoffdoaa
