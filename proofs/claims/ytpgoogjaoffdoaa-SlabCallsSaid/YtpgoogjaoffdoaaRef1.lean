/- The document's slab: addr, New, by walks. -/
import Derived.Test.YtpgoogjaoffdoaaRefS
import Derived.Test.YtpgoogjaoffdoaaM4
import Derived.Test.YtpgoogjaoffdoaaOps3
namespace Go.Proofs.Ytpgoogjaoffdoaa
set_option linter.unusedVariables false
set_option linter.unusedSimpArgs false
open Go.RowKit

set_option maxRecDepth 100000 in
set_option maxHeartbeats 400000 in
theorem raddr_calls (i age k : Nat) (hi : i < 1048576) (ha : age < 1048576) (hk : k < 4096) (v1 v2 v3 : Value) (w : World) :
    Calls Try.prog 43 #[.agg #[.int .i64 (i : Int), .int .i64 (age : Int), v1, v2, v3], .int .i64 (k : Int)] w fun e w' => e = .returned (.int .u64 (addrOf i age k : Nat)) ∧ Mod (fun _ => False) w w' := by
  have e1 : IntKind.u64.wrap ((age : Int) * 4294967296) = (age : Int) * 4294967296 := by simp [IntKind.wrap, IntKind.bits, IntKind.signed]; omega
  have e2 : IntKind.u64.wrap (4611686018427387904 + (age : Int) * 4294967296) = 4611686018427387904 + (age : Int) * 4294967296 := by simp [IntKind.wrap, IntKind.bits, IntKind.signed]; omega
  have e3 : IntKind.u64.wrap ((i : Int) * 4096) = (i : Int) * 4096 := by simp [IntKind.wrap, IntKind.bits, IntKind.signed]; omega
  have e4 : IntKind.u64.wrap (4611686018427387904 + (age : Int) * 4294967296 + (i : Int) * 4096) = 4611686018427387904 + (age : Int) * 4294967296 + (i : Int) * 4096 := by simp [IntKind.wrap, IntKind.bits, IntKind.signed]; omega
  have e5 : IntKind.u64.wrap (4611686018427387904 + (age : Int) * 4294967296 + (i : Int) * 4096 + (k : Int)) = 4611686018427387904 + (age : Int) * 4294967296 + (i : Int) * 4096 + (k : Int) := by simp [IntKind.wrap, IntKind.bits, IntKind.signed]; omega
  go_enter Try.func43, Try.ntmps43
  go_wp2
  go_ret
  have e : ((addrOf i age k : Nat) : Int) = 4611686018427387904 + (age : Int) * 4294967296 + (i : Int) * 4096 + (k : Int) := by unfold addrOf; omega
  exact ⟨by rw [e]; rfl, Mod.alloc _ _ _⟩

/-- The cells of one piece's place in the row. -/
theorem RRepS.piece {w : World} {b : Nat} {r : RSS} {own : Nat → Option Rr} {L : RLo} (h : RRepS w b r own L) {i : Nat} {p : RPc} (hp : r.pcs[i]? = some p) :
    ∃ (q : RQ) (g : Nat), L.Q[i]? = some q ∧ q.pc = p ∧ L.gp = some g ∧ i < L.Q.length ∧ w.cell? ⟨g, i * 5, none⟩ = some (.int .i64 (p.idx : Int)) ∧ w.cell? ⟨g, i * 5 + 1, none⟩ = some (.int .i64 (p.age : Int)) ∧
      w.cell? ⟨g, i * 5 + 2, none⟩ = some (sv q.gv p.vals.length q.cv) ∧ w.cell? ⟨g, i * 5 + 3, none⟩ = some (sv q.gh p.has.length q.ch) ∧ w.cell? ⟨g, i * 5 + 4, none⟩ = some (.bool p.freed) := by
  rw [h.pcs, List.getElem?_map] at hp
  cases hq : L.Q[i]? with
  | none => rw [hq] at hp; simp at hp
  | some q =>
    rw [hq] at hp
    obtain rfl := Option.some.inj hp
    have hil := (List.getElem?_eq_some_iff.1 hq).1
    obtain ⟨g, hg⟩ := h.plc.some_of (by omega)
    have c := fun j hj => flat5_get L.Q i q hq j hj
    exact ⟨q, g, rfl, rfl, hg, hil, h.plc.cell hg (by rw [← Nat.add_zero (i * 5), c 0 (by omega)]; rfl), h.plc.cell hg (by rw [c 1 (by omega)]; rfl), h.plc.cell hg (by rw [c 2 (by omega)]; rfl), h.plc.cell hg (by rw [c 3 (by omega)]; rfl), h.plc.cell hg (by rw [c 4 (by omega)]; rfl)⟩

/-- The struct's own cells. -/
theorem RRepS.cells {w : World} {b : Nat} {r : RSS} {own : Nat → Option Rr} {L : RLo} (h : RRepS w b r own L) :
    w.cell? ⟨b, 0, none⟩ = some (.int .i64 (r.room : Int)) ∧ w.cell? ⟨b, 1, none⟩ = some (sv L.gp L.Q.length L.cp) ∧ w.cell? ⟨b, 2, none⟩ = some (sv L.gf r.fre.length L.cf) ∧ w.cell? ⟨b, 3, none⟩ = some (.int .i64 (r.next : Int)) := by
  simp [World.cell?, h.base, rCells]

/-- Bounds that hold in a law's play. -/
structure RSS.Ok (r : RSS) (N : Nat) : Prop where
  bound : N < 1048576
  many : r.pcs.length ≤ N
  idx : ∀ p ∈ r.pcs, p.idx < 1048576
  age : ∀ p ∈ r.pcs, p.age < 1048576
  len : ∀ p ∈ r.pcs, p.vals.length ≤ 4095 ∧ p.has.length = p.vals.length
  next : r.next ≤ N
  fre : r.fre.length ≤ N
end Go.Proofs.Ytpgoogjaoffdoaa
