/- The walks of slab's calls that write, said of cells: Off, set, Store, Blank, Free. -/
import Derived.Test.YtpgoogjaoffdoaaOps
namespace Go.Proofs.Ytpgoogjaoffdoaa
set_option linter.unusedVariables false
set_option linter.unusedSimpArgs false
open Go.RowKit
theorem ret_u64 {x y : Int} (h : x = y) : Ending.returned (.tuple #[.int .u64 x, .int .i64 0]) = .returned (.tuple #[.int .u64 y, .int .i64 0]) := by rw [h]

section
variable (b : Nat) (a : Int) (w : World) (g i k : Nat) (x : Int) (n c : Nat) (ao : Option Addr)

set_option maxRecDepth 100000 in
set_option maxHeartbeats 400000 in
theorem off_low (p1 : w.cell? ⟨g, i * 3 + 1, none⟩ = some (.slice ao n c)) (hk : k < n) (hn : n < 4096) (hf : goodFind b a w g i k) (hx : x < -(k : Int)) :
    Calls Try.prog 20 #[.pointer (some ⟨b, 0, none⟩), .int .u64 a, .int .i64 x] w fun x w' => x = .returned (.tuple #[.int .u64 0, .int .i64 11]) ∧ w' = w := by
  go_enter Try.func20, Try.ntmps20
  go_wp2_with (go_at_call 41; refine (hf.out).mono ?_; rintro e w' ⟨rfl, rfl⟩)
  go_ret2
  exact ⟨rfl, rfl⟩

set_option maxRecDepth 100000 in
set_option maxHeartbeats 400000 in
theorem off_high (p1 : w.cell? ⟨g, i * 3 + 1, none⟩ = some (.slice ao n c)) (hk : k < n) (hn : n < 4096) (hf : goodFind b a w g i k) (hx : -(k : Int) ≤ x) (hx2 : (n : Int) - k ≤ x) :
    Calls Try.prog 20 #[.pointer (some ⟨b, 0, none⟩), .int .u64 a, .int .i64 x] w fun x w' => x = .returned (.tuple #[.int .u64 0, .int .i64 11]) ∧ w' = w := by
  go_enter Try.func20, Try.ntmps20
  go_wp2_with (go_at_call 41; refine (hf.out).mono ?_; rintro e w' ⟨rfl, rfl⟩)
  go_ret2
  exact ⟨rfl, rfl⟩

set_option maxRecDepth 100000 in
set_option maxHeartbeats 400000 in
theorem off_good (p1 : w.cell? ⟨g, i * 3 + 1, none⟩ = some (.slice ao n c)) (m cs : Nat) (so : Option Addr) (p0 : w.cell? ⟨g, i * 3, none⟩ = some (.slice so m cs)) (hm : 1 ≤ m) (hm2 : m < 1048576) (hi : i < 1048576)
    (hk : k < n) (hn : n < 4096) (hf : goodFind b a w g i k) (y : Nat) (hy : (k : Int) + x = y) (hyn : y < n) :
    Calls Try.prog 20 #[.pointer (some ⟨b, 0, none⟩), .int .u64 a, .int .i64 x] w fun e w' => e = .returned (.tuple #[.int .u64 (4611686018427387904 + ((m - 1 : Nat) : Int) * 4294967296 + (i : Int) * 4096 + (y : Int)), .int .i64 0]) ∧ w' = w := by
  have h1 : -(k : Int) ≤ x := by omega
  have h2 : x < (n : Int) - k := by omega
  obtain rfl : x = (y : Int) - k := by omega
  clear hy
  go_enter Try.func20, Try.ntmps20
  go_wp2_with (first | (go_at_call 41; refine (hf.out).mono ?_; rintro e w' ⟨rfl, rfl⟩) | (go_at_call 39; refine (addr_any _ _ _ _ (by omega) (by omega) (by omega) (by omega) (by omega) (by omega)).mono ?_; rintro e w' ⟨rfl, rfl⟩))
  go_ret2
  exact ⟨ret_u64 (by omega), rfl⟩
end

/-- 'set' at an address that find refuses: the cell was laid in a box of its own, nothing else. -/
def errFind (b : Nat) (a : Int) (w : World) (i k e : Nat) : Prop := Calls Try.prog 41 #[.pointer (some ⟨b, 0, none⟩), .int .u64 a] w fun x w' =>
      x = .returned (.tuple #[.pointer none, .int .i64 (i : Int), .int .i64 (k : Int), .int .i64 (e : Int)]) ∧ w' = w
theorem errFind.out {b : Nat} {a : Int} {w : World} {i k e : Nat} (h : errFind b a w i k e) : Calls Try.prog 41 #[.pointer (some ⟨b, 0, none⟩), .int .u64 a] w fun x w' =>
      x = .returned (.tuple #[.pointer none, .int .i64 (i : Int), .int .i64 (k : Int), .int .i64 (e : Int)]) ∧ w' = w := h

def boxed (w : World) (x : Int) (f : Bool) : World := w.alloc (.cells #[.int .i64 x, .bool f] 89)

set_option maxRecDepth 100000 in
set_option maxHeartbeats 400000 in
theorem set_err (b : Nat) (a : Int) (w : World) (x : Int) (f : Bool) (i k e : Nat) (hf : errFind b a (w.alloc (.cells #[.int .i64 x, .bool f] 89)) i k e) (he : 0 < e) :
    Calls Try.prog 40 #[.pointer (some ⟨b, 0, none⟩), .int .u64 a, .agg #[.int .i64 x, .bool f]] w fun r w' => r = .returned (.int .i64 (e : Int)) ∧ w' = boxed w x f := by
  go_enter Try.func40, Try.ntmps40
  go_wp2_with (go_at_call 41; refine (hf.out).mono ?_; rintro e w' ⟨rfl, rfl⟩)
  go_ret
  exact ⟨rfl, rfl⟩

set_option maxRecDepth 100000 in
set_option maxHeartbeats 400000 in
theorem set_good (b : Nat) (a : Int) (w : World) (x : Int) (f : Bool) (g i k gc n c : Nat) (u0 u1 : Value) (hf : goodFind b a (w.alloc (.cells #[.int .i64 x, .bool f] 89)) g i k) 
    (hg : g < w.heap.size) (hgc : gc < w.heap.size)
    (p1 : w.cell? ⟨g, i * 3 + 1, none⟩ = some (.slice (some ⟨gc, 0, none⟩) n c)) (hk : k < n)
    (q0 : w.cell? ⟨gc, k * 2, none⟩ = some u0) (q1 : w.cell? ⟨gc, k * 2 + 1, none⟩ = some u1) (f0 : w.frozen? ⟨gc, k * 2, none⟩ = false) (f1 : w.frozen? ⟨gc, k * 2 + 1, none⟩ = false) :
    Calls Try.prog 40 #[.pointer (some ⟨b, 0, none⟩), .int .u64 a, .agg #[.int .i64 x, .bool f]] w fun r w' => r = .returned (.int .i64 0) ∧
      w' = (((w.setCell ⟨gc, k * 2, none⟩ (.int .i64 x)).setCell ⟨gc, k * 2 + 1, none⟩ (.bool f)).alloc (.cells #[.int .i64 x, .bool f] 89)).drew := by
  go_enter Try.func40, Try.ntmps40
  go_wp2_with (go_at_call 41; refine (hf.out).mono ?_; rintro e w' ⟨rfl, rfl⟩)
  go_region
  go_wp2
  go_ret
  exact ⟨rfl, rfl⟩
end Go.Proofs.Ytpgoogjaoffdoaa
