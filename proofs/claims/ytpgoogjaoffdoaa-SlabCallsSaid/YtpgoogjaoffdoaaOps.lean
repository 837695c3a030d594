/- The walks of slab's calls, said of cells: New, addr, Live, Used, Load, Size, Off, set, Store, Blank, Free. -/
import Derived.Test.YtpgoogjaoffdoaaRows
import Derived.Test.YtpgoogjaoffdoaaM
namespace Go.Proofs.Ytpgoogjaoffdoaa
set_option linter.unusedVariables false
set_option linter.unusedSimpArgs false
open Go.RowKit

def newCells (n : Int) : Array Value := #[.int .i64 n, .int .i64 0, .int .i64 0, .slice none 0 0, .slice none 0 0]

set_option maxRecDepth 100000 in
set_option maxHeartbeats 400000 in
theorem new_ok (n : Int) (w : World) (h0 : 0 ≤ n) (h1 : n ≤ 16384) :
    Calls Try.prog 9 #[.int .i64 n] w fun e w' => e = .returned (.tuple #[.pointer (some ⟨w.heap.size, 0, none⟩), .int .i64 0]) ∧ w' = w.alloc (.cells (newCells n) 69) := by
  go_enter Try.func9, Try.ntmps9
  go_wp2
  go_ret2
  exact ⟨rfl, rfl⟩

set_option maxRecDepth 100000 in
set_option maxHeartbeats 400000 in
theorem new_low (n : Int) (w : World) (h0 : n < 0) :
    Calls Try.prog 9 #[.int .i64 n] w fun e w' => e = .returned (.tuple #[.pointer none, .int .i64 11]) ∧ w' = w := by
  go_enter Try.func9, Try.ntmps9
  go_wp2
  go_ret2
  exact ⟨rfl, rfl⟩

set_option maxRecDepth 100000 in
set_option maxHeartbeats 400000 in
theorem new_high (n : Int) (w : World) (h0 : 16384 < n) :
    Calls Try.prog 9 #[.int .i64 n] w fun e w' => e = .returned (.tuple #[.pointer none, .int .i64 11]) ∧ w' = w := by
  go_enter Try.func9, Try.ntmps9
  go_wp2
  go_ret2
  exact ⟨rfl, rfl⟩

set_option maxRecDepth 100000 in
set_option maxHeartbeats 400000 in
theorem addr_any (i age slot : Int) (w : World) (hi0 : 0 ≤ i) (hi : i < 1048576) (ha0 : 0 ≤ age) (ha : age < 1048576) (hs0 : 0 ≤ slot) (hs : slot < 4096) :
    Calls Try.prog 39 #[.int .i64 i, .int .i64 age, .int .i64 slot] w fun e w' => e = .returned (.int .u64 (4611686018427387904 + age * 4294967296 + i * 4096 + slot)) ∧ w' = w := by
  go_enter Try.func39, Try.ntmps39
  go_wp2
  go_ret
  exact ⟨rfl, rfl⟩

set_option maxHeartbeats 400000 in
theorem live_any (b : Nat) (v : Value) (w : World) (h : w.cell? ⟨b, 2, none⟩ = some v) :
    Calls Try.prog 19 #[.pointer (some ⟨b, 0, none⟩)] w fun e w' => e = .returned v ∧ w' = w := by
  go_enter Try.func19, Try.ntmps19
  go_wp2
  go_ret
  exact ⟨rfl, rfl⟩

set_option maxHeartbeats 400000 in
theorem used_any (b : Nat) (v : Value) (w : World) (h : w.cell? ⟨b, 1, none⟩ = some v) :
    Calls Try.prog 22 #[.pointer (some ⟨b, 0, none⟩)] w fun e w' => e = .returned v ∧ w' = w := by
  go_enter Try.func22, Try.ntmps22
  go_wp2
  go_ret
  exact ⟨rfl, rfl⟩

section
variable (b : Nat) (a : Int) (w : World)

set_option maxRecDepth 100000 in
set_option maxHeartbeats 400000 in
theorem load_err (i k e : Nat) (hf : Hid (Calls Try.prog 41 #[.pointer (some ⟨b, 0, none⟩), .int .u64 a] w fun x w' =>
      x = .returned (.tuple #[.pointer none, .int .i64 (i : Int), .int .i64 (k : Int), .int .i64 (e : Int)]) ∧ w' = w)) (he : 0 < e) :
    Calls Try.prog 18 #[.pointer (some ⟨b, 0, none⟩), .int .u64 a] w fun x w' => x = .returned (.tuple #[.int .i64 0, .int .i64 (e : Int)]) ∧ w' = w := by
  go_enter Try.func18, Try.ntmps18
  go_wp2_with (go_at_call 41; refine (hf.out).mono ?_; rintro e w' ⟨rfl, rfl⟩)
  go_ret2
  exact ⟨rfl, rfl⟩

set_option maxRecDepth 100000 in
set_option maxHeartbeats 400000 in
theorem size_err (i k e : Nat) (hf : Hid (Calls Try.prog 41 #[.pointer (some ⟨b, 0, none⟩), .int .u64 a] w fun x w' =>
      x = .returned (.tuple #[.pointer none, .int .i64 (i : Int), .int .i64 (k : Int), .int .i64 (e : Int)]) ∧ w' = w)) (he : 0 < e) :
    Calls Try.prog 23 #[.pointer (some ⟨b, 0, none⟩), .int .u64 a] w fun x w' => x = .returned (.tuple #[.int .i64 0, .int .i64 (e : Int)]) ∧ w' = w := by
  go_enter Try.func23, Try.ntmps23
  go_wp2_with (go_at_call 41; refine (hf.out).mono ?_; rintro e w' ⟨rfl, rfl⟩)
  go_ret2
  exact ⟨rfl, rfl⟩

set_option maxRecDepth 100000 in
set_option maxHeartbeats 400000 in
theorem off_err (n : Int) (i k e : Nat) (hf : Hid (Calls Try.prog 41 #[.pointer (some ⟨b, 0, none⟩), .int .u64 a] w fun x w' =>
      x = .returned (.tuple #[.pointer none, .int .i64 (i : Int), .int .i64 (k : Int), .int .i64 (e : Int)]) ∧ w' = w)) (he : 0 < e) :
    Calls Try.prog 20 #[.pointer (some ⟨b, 0, none⟩), .int .u64 a, .int .i64 n] w fun x w' => x = .returned (.tuple #[.int .u64 0, .int .i64 (e : Int)]) ∧ w' = w := by
  go_enter Try.func20, Try.ntmps20
  go_wp2_with (go_at_call 41; refine (hf.out).mono ?_; rintro e w' ⟨rfl, rfl⟩)
  go_ret2
  exact ⟨rfl, rfl⟩

set_option maxRecDepth 100000 in
set_option maxHeartbeats 400000 in
theorem free_err (i k e : Nat) (hf : Hid (Calls Try.prog 41 #[.pointer (some ⟨b, 0, none⟩), .int .u64 a] w fun x w' =>
      x = .returned (.tuple #[.pointer none, .int .i64 (i : Int), .int .i64 (k : Int), .int .i64 (e : Int)]) ∧ w' = w)) (he : 0 < e) :
    Calls Try.prog 17 #[.pointer (some ⟨b, 0, none⟩), .int .u64 a] w fun x w' => x = .returned (.int .i64 (e : Int)) ∧ w' = w := by
  go_enter Try.func17, Try.ntmps17
  go_wp2_with (go_at_call 41; refine (hf.out).mono ?_; rintro e w' ⟨rfl, rfl⟩)
  go_ret
  exact ⟨rfl, rfl⟩

variable (g i k : Nat)
def goodFind : Prop := Calls Try.prog 41 #[.pointer (some ⟨b, 0, none⟩), .int .u64 a] w fun x w' =>
      x = .returned (.tuple #[.pointer (some ⟨g, i * 3, none⟩), .int .i64 (i : Int), .int .i64 (k : Int), .int .i64 0]) ∧ w' = w

theorem goodFind.out (h : goodFind b a w g i k) : Calls Try.prog 41 #[.pointer (some ⟨b, 0, none⟩), .int .u64 a] w fun x w' =>
      x = .returned (.tuple #[.pointer (some ⟨g, i * 3, none⟩), .int .i64 (i : Int), .int .i64 (k : Int), .int .i64 0]) ∧ w' = w := h

set_option maxRecDepth 100000 in
set_option maxHeartbeats 400000 in
theorem free_range (hf : goodFind b a w g i k) (hk : 0 < k) :
    Calls Try.prog 17 #[.pointer (some ⟨b, 0, none⟩), .int .u64 a] w fun x w' => x = .returned (.int .i64 11) ∧ w' = w := by
  go_enter Try.func17, Try.ntmps17
  go_wp2_with (go_at_call 41; refine (hf.out).mono ?_; rintro e w' ⟨rfl, rfl⟩)
  go_ret
  exact ⟨rfl, rfl⟩

set_option maxRecDepth 100000 in
set_option maxHeartbeats 400000 in
theorem size_good (n c : Nat) (ao : Option Addr) (hf : goodFind b a w g i k) (p1 : w.cell? ⟨g, i * 3 + 1, none⟩ = some (.slice ao n c)) :
    Calls Try.prog 23 #[.pointer (some ⟨b, 0, none⟩), .int .u64 a] w fun x w' => x = .returned (.tuple #[.int .i64 (n : Int), .int .i64 0]) ∧ w' = w := by
  go_enter Try.func23, Try.ntmps23
  go_wp2_with (go_at_call 41; refine (hf.out).mono ?_; rintro e w' ⟨rfl, rfl⟩)
  go_ret2
  exact ⟨rfl, rfl⟩

variable (gc n c : Nat) (p1 : w.cell? ⟨g, i * 3 + 1, none⟩ = some (.slice (some ⟨gc, 0, none⟩) n c)) (hk : k < n)
include p1 hk
set_option maxRecDepth 100000 in
set_option maxHeartbeats 400000 in
theorem load_blank (hf : goodFind b a w g i k) (pk : w.cell? ⟨gc, k * 2 + 1, none⟩ = some (.bool false)) :
    Calls Try.prog 18 #[.pointer (some ⟨b, 0, none⟩), .int .u64 a] w fun x w' => x = .returned (.tuple #[.int .i64 0, .int .i64 15]) ∧ w' = w := by
  go_enter Try.func18, Try.ntmps18
  go_wp2_with (go_at_call 41; refine (hf.out).mono ?_; rintro e w' ⟨rfl, rfl⟩)
  go_ret2
  exact ⟨rfl, rfl⟩

set_option maxRecDepth 100000 in
set_option maxHeartbeats 400000 in
theorem load_good (v : Int) (hf : goodFind b a w g i k) (pk : w.cell? ⟨gc, k * 2 + 1, none⟩ = some (.bool true)) (pv : w.cell? ⟨gc, k * 2, none⟩ = some (.int .i64 v)) :
    Calls Try.prog 18 #[.pointer (some ⟨b, 0, none⟩), .int .u64 a] w fun x w' => x = .returned (.tuple #[.int .i64 v, .int .i64 0]) ∧ w' = w := by
  go_enter Try.func18, Try.ntmps18
  go_wp2_with (go_at_call 41; refine (hf.out).mono ?_; rintro e w' ⟨rfl, rfl⟩)
  go_ret2
  exact ⟨rfl, rfl⟩
end
end Go.Proofs.Ytpgoogjaoffdoaa
