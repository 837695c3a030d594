/- The walks of slab's find (and of addr): what an address comes to, said of cells. -/
import Derived.Test.YtpgoogjaoffdoaaRows
import Derived.Test.YtpgoogjaoffdoaaM
namespace Go.Proofs.Ytpgoogjaoffdoaa
set_option linter.unusedVariables false
set_option linter.unusedSimpArgs false
open Go.RowKit

set_option maxRecDepth 100000 in
set_option maxHeartbeats 400000 in
theorem find_low (b : Nat) (a : Int) (w : World) (ha : a < 4611686018427387904) :
    Calls Try.prog 41 #[.pointer (some ⟨b, 0, none⟩), .int .u64 a] w fun e w' => e = .returned (.tuple #[.pointer none, .int .i64 0, .int .i64 0, .int .i64 12]) ∧ w' = w := by
  go_enter Try.func41, Try.ntmps41
  go_wp2
  exact bodyPost_ret (v := .tuple #[.pointer none, .int .i64 0, .int .i64 0, .int .i64 12]) (by simp [results, Try.results41, go_sem]) rfl ⟨rfl, rfl⟩

set_option maxRecDepth 100000 in
set_option maxHeartbeats 400000 in
theorem find_off (b : Nat) (a : Int) (w : World) (age pl slot n c : Nat)
    (h1 : IntKind.u64.wrap (a - 4611686018427387904) / 4294967296 = (age : Int))
    (h2 : bits BinOp.and IntKind.u64 (IntKind.u64.wrap (a - 4611686018427387904)) 4294967295 / 4096 = (pl : Int))
    (h3 : bits BinOp.and IntKind.u64 a 4095 = (slot : Int)) (hs : slot < 4096)
    (ha : 4611686018427387904 ≤ a) (hn : IntKind.u64.wrap (n : Int) = (n : Int))
    (ao : Option Addr) (c3 : w.cell? ⟨b, 3, none⟩ = some (.slice ao n c)) (hlt : n ≤ pl) :
    Calls Try.prog 41 #[.pointer (some ⟨b, 0, none⟩), .int .u64 a] w fun e w' => e = .returned (.tuple #[.pointer none, .int .i64 0, .int .i64 0, .int .i64 12]) ∧ w' = w := by
  go_enter Try.func41, Try.ntmps41
  go_wp2
  exact bodyPost_ret (v := .tuple #[.pointer none, .int .i64 0, .int .i64 0, .int .i64 12]) (by simp [results, Try.results41, go_sem]) rfl ⟨rfl, rfl⟩

set_option maxRecDepth 100000 in
set_option maxHeartbeats 400000 in
theorem find_age (b : Nat) (a : Int) (w : World) (age pl slot n c : Nat)
    (h1 : IntKind.u64.wrap (a - 4611686018427387904) / 4294967296 = (age : Int))
    (h2 : bits BinOp.and IntKind.u64 (IntKind.u64.wrap (a - 4611686018427387904)) 4294967295 / 4096 = (pl : Int))
    (h3 : bits BinOp.and IntKind.u64 a 4095 = (slot : Int)) (hs : slot < 4096)
    (ha : 4611686018427387904 ≤ a) (hn : IntKind.u64.wrap (n : Int) = (n : Int))
    (hpl : pl < 1048576) (hnm : n ≤ 9223372036854775807) (hac : age < 4294967296) (g m cs : Nat) (so : Option Addr) (hlt : pl < n) (hnc : n ≤ c) (hm : IntKind.u64.wrap (m : Int) = (m : Int))
    (c3 : w.cell? ⟨b, 3, none⟩ = some (.slice (some ⟨g, 0, none⟩) n c)) (p0 : w.cell? ⟨g, pl * 3, none⟩ = some (.slice so m cs)) (hage : m ≤ age) :
    Calls Try.prog 41 #[.pointer (some ⟨b, 0, none⟩), .int .u64 a] w fun e w' => e = .returned (.tuple #[.pointer none, .int .i64 0, .int .i64 0, .int .i64 12]) ∧ w' = w := by
  go_enter Try.func41, Try.ntmps41
  go_wp2
  exact bodyPost_ret (v := .tuple #[.pointer none, .int .i64 0, .int .i64 0, .int .i64 12]) (by simp [results, Try.results41, go_sem]) rfl ⟨rfl, rfl⟩

set_option maxRecDepth 100000 in
set_option maxHeartbeats 400000 in
theorem find_slot (b : Nat) (a : Int) (w : World) (age pl slot n c : Nat)
    (h1 : IntKind.u64.wrap (a - 4611686018427387904) / 4294967296 = (age : Int))
    (h2 : bits BinOp.and IntKind.u64 (IntKind.u64.wrap (a - 4611686018427387904)) 4294967295 / 4096 = (pl : Int))
    (h3 : bits BinOp.and IntKind.u64 a 4095 = (slot : Int)) (hs : slot < 4096)
    (ha : 4611686018427387904 ≤ a) (hn : IntKind.u64.wrap (n : Int) = (n : Int))
    (hpl : pl < 1048576) (hnm : n ≤ 9223372036854775807) (hac : age < 4294967296) (g gs m cs : Nat) (hlt : pl < n) (hnc : n ≤ c) (hm : IntKind.u64.wrap (m : Int) = (m : Int))
    (c3 : w.cell? ⟨b, 3, none⟩ = some (.slice (some ⟨g, 0, none⟩) n c)) (p0 : w.cell? ⟨g, pl * 3, none⟩ = some (.slice (some ⟨gs, 0, none⟩) m cs)) (hage : age < m) (hmc : m ≤ cs) (z : Nat) (pz : w.cell? ⟨gs, age, none⟩ = some (.int .i64 z)) (hz : z ≤ slot) :
    Calls Try.prog 41 #[.pointer (some ⟨b, 0, none⟩), .int .u64 a] w fun e w' => e = .returned (.tuple #[.pointer none, .int .i64 0, .int .i64 0, .int .i64 12]) ∧ w' = w := by
  go_enter Try.func41, Try.ntmps41
  go_wp2
  exact bodyPost_ret (v := .tuple #[.pointer none, .int .i64 0, .int .i64 0, .int .i64 12]) (by simp [results, Try.results41, go_sem]) rfl ⟨rfl, rfl⟩

set_option maxRecDepth 100000 in
set_option maxHeartbeats 400000 in
theorem find_freed (b : Nat) (a : Int) (w : World) (age pl slot n c : Nat)
    (h1 : IntKind.u64.wrap (a - 4611686018427387904) / 4294967296 = (age : Int))
    (h2 : bits BinOp.and IntKind.u64 (IntKind.u64.wrap (a - 4611686018427387904)) 4294967295 / 4096 = (pl : Int))
    (h3 : bits BinOp.and IntKind.u64 a 4095 = (slot : Int)) (hs : slot < 4096)
    (ha : 4611686018427387904 ≤ a) (hn : IntKind.u64.wrap (n : Int) = (n : Int))
    (hpl : pl < 1048576) (hnm : n ≤ 9223372036854775807) (hac : age < 4294967296) (g gs m cs : Nat) (hlt : pl < n) (hnc : n ≤ c) (hm : IntKind.u64.wrap (m : Int) = (m : Int))
    (c3 : w.cell? ⟨b, 3, none⟩ = some (.slice (some ⟨g, 0, none⟩) n c)) (p0 : w.cell? ⟨g, pl * 3, none⟩ = some (.slice (some ⟨gs, 0, none⟩) m cs)) (hage : age < m) (hmc : m ≤ cs) (z : Nat) (pz : w.cell? ⟨gs, age, none⟩ = some (.int .i64 z)) (hz : slot < z) (p2 : w.cell? ⟨g, pl * 3 + 2, none⟩ = some (.bool true)) :
    Calls Try.prog 41 #[.pointer (some ⟨b, 0, none⟩), .int .u64 a] w fun e w' => e = .returned (.tuple #[.pointer none, .int .i64 0, .int .i64 0, .int .i64 14]) ∧ w' = w := by
  go_enter Try.func41, Try.ntmps41
  go_wp2
  exact bodyPost_ret (v := .tuple #[.pointer none, .int .i64 0, .int .i64 0, .int .i64 14]) (by simp [results, Try.results41, go_sem]) rfl ⟨rfl, rfl⟩

set_option maxRecDepth 100000 in
set_option maxHeartbeats 400000 in
theorem find_older (b : Nat) (a : Int) (w : World) (age pl slot n c : Nat)
    (h1 : IntKind.u64.wrap (a - 4611686018427387904) / 4294967296 = (age : Int))
    (h2 : bits BinOp.and IntKind.u64 (IntKind.u64.wrap (a - 4611686018427387904)) 4294967295 / 4096 = (pl : Int))
    (h3 : bits BinOp.and IntKind.u64 a 4095 = (slot : Int)) (hs : slot < 4096)
    (ha : 4611686018427387904 ≤ a) (hn : IntKind.u64.wrap (n : Int) = (n : Int))
    (hpl : pl < 1048576) (hnm : n ≤ 9223372036854775807) (hac : age < 4294967296) (g gs m cs : Nat) (hlt : pl < n) (hnc : n ≤ c) (hm : IntKind.u64.wrap (m : Int) = (m : Int))
    (c3 : w.cell? ⟨b, 3, none⟩ = some (.slice (some ⟨g, 0, none⟩) n c)) (p0 : w.cell? ⟨g, pl * 3, none⟩ = some (.slice (some ⟨gs, 0, none⟩) m cs)) (hage : age < m) (hmc : m ≤ cs) (z : Nat) (pz : w.cell? ⟨gs, age, none⟩ = some (.int .i64 z)) (hz : slot < z) (p2 : w.cell? ⟨g, pl * 3 + 2, none⟩ = some (.bool false)) (hold : age + 1 < m) :
    Calls Try.prog 41 #[.pointer (some ⟨b, 0, none⟩), .int .u64 a] w fun e w' => e = .returned (.tuple #[.pointer none, .int .i64 0, .int .i64 0, .int .i64 14]) ∧ w' = w := by
  go_enter Try.func41, Try.ntmps41
  go_wp2
  exact bodyPost_ret (v := .tuple #[.pointer none, .int .i64 0, .int .i64 0, .int .i64 14]) (by simp [results, Try.results41, go_sem]) rfl ⟨rfl, rfl⟩

set_option maxRecDepth 100000 in
set_option maxHeartbeats 400000 in
theorem find_good (b : Nat) (a : Int) (w : World) (age pl slot n c : Nat)
    (h1 : IntKind.u64.wrap (a - 4611686018427387904) / 4294967296 = (age : Int))
    (h2 : bits BinOp.and IntKind.u64 (IntKind.u64.wrap (a - 4611686018427387904)) 4294967295 / 4096 = (pl : Int))
    (h3 : bits BinOp.and IntKind.u64 a 4095 = (slot : Int)) (hs : slot < 4096)
    (ha : 4611686018427387904 ≤ a) (hn : IntKind.u64.wrap (n : Int) = (n : Int))
    (hpl : pl < 1048576) (hnm : n ≤ 9223372036854775807) (hac : age < 4294967296) (g gs m cs : Nat) (hlt : pl < n) (hnc : n ≤ c) (hm : IntKind.u64.wrap (m : Int) = (m : Int))
    (c3 : w.cell? ⟨b, 3, none⟩ = some (.slice (some ⟨g, 0, none⟩) n c)) (p0 : w.cell? ⟨g, pl * 3, none⟩ = some (.slice (some ⟨gs, 0, none⟩) m cs)) (hage : age < m) (hmc : m ≤ cs) (z : Nat) (pz : w.cell? ⟨gs, age, none⟩ = some (.int .i64 z)) (hz : slot < z) (p2 : w.cell? ⟨g, pl * 3 + 2, none⟩ = some (.bool false)) (hold : m ≤ age + 1) :
    Calls Try.prog 41 #[.pointer (some ⟨b, 0, none⟩), .int .u64 a] w fun e w' => e = .returned (.tuple #[.pointer (some ⟨g, pl * 3, none⟩), .int .i64 pl, .int .i64 slot, .int .i64 0]) ∧ w' = w := by
  go_enter Try.func41, Try.ntmps41
  go_wp2
  exact bodyPost_ret (v := .tuple #[.pointer (some ⟨g, pl * 3, none⟩), .int .i64 pl, .int .i64 slot, .int .i64 0]) (by simp [results, Try.results41, go_sem]) rfl ⟨rfl, rfl⟩

end Go.Proofs.Ytpgoogjaoffdoaa
