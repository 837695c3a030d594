/- The slab as data through SlabHolds: a piece of five, and a piece of n with these cells. -/
import Derived.Test.YtpgoogjaoffdoaaOffsS
namespace Go.Proofs.Ytpgoogjaoffdoaa
set_option linter.unusedVariables false
set_option linter.unusedSimpArgs false

def HS (n : Nat) (cs : List (Int × Bool)) : SS := ⟨n + 5, n + 5, 2, [RP 5, ⟨[n], cs, false⟩], []⟩

theorem HS_get5 (n : Nat) : (OS (n + 5) []).get 5 = ((addrOf 0 0 0, 0), OS (n + 5) [5]) := OS_get (n + 5) [] 5 (by omega) (by omega) (by simp)
theorem HS_getn (n : Nat) (h1 : 1 ≤ n) (h2 : n ≤ 4095) : (OS (n + 5) [5]).get n = ((addrOf 1 0 0, 0), HS n (List.replicate n (0, false))) := by
  rw [OS_get (n + 5) [5] n h1 h2 (by simp; omega)]
  simp [OS, HS, RP]; omega

theorem HS_WF (n : Nat) (h1 : 1 ≤ n) (h2 : n ≤ 100) : (OS (n + 5) []).WF 0 ∧ (OS (n + 5) [5]).WF 1 ∧ (HS n (List.replicate n (0, false))).WF 2 := by
  have w0 : (OS (n + 5) []).WF 0 := WF.start (n + 5) (by omega)
  have w1 := WF.get w0 (by omega) 5
  rw [HS_get5] at w1
  have w2 := WF.get w1 (by omega) n
  rw [HS_getn n h1 (by omega)] at w2
  exact ⟨w0, w1, w2⟩

theorem HS_find (n k : Nat) (cs : List (Int × Bool)) (hk : k < n) (hn : n ≤ 100) : (HS n cs).find (addrOf 1 0 k) = (1, k, 0) := by
  have f1 : ¬ addrOf 1 0 k < lowMark := by unfold addrOf lowMark; omega
  have f2 : (addrOf 1 0 k - lowMark) % 4294967296 / 4096 = 1 := by unfold addrOf lowMark; omega
  have f3 : (addrOf 1 0 k - lowMark) / 4294967296 = 0 := by unfold addrOf lowMark; omega
  have f4 : addrOf 1 0 k % 4096 = k := by unfold addrOf; omega
  unfold SS.find
  rw [if_neg f1, f2, f3, f4]
  simp [HS]; omega

theorem HS_off (n k : Nat) (cs : List (Int × Bool)) (hc : cs.length = n) (hk : k < n) (hn : n ≤ 100) : (HS n cs).off (addrOf 1 0 0) k = (addrOf 1 0 k, 0) := by
  unfold SS.off
  rw [HS_find n 0 cs (by omega) hn]
  simp only [ne_eq, not_true, if_false, SS.lenAt, SS.ageAt, HS]
  simp [hc]; omega

theorem HS_set (n k : Nat) (cs : List (Int × Bool)) (c : Int × Bool) (hk : k < n) (hn : n ≤ 100) : (HS n cs).set (addrOf 1 0 k) c = (0, HS n (cs.set k c)) := by
  unfold SS.set
  rw [HS_find n k cs hk hn]
  simp [HS, SS.upd]

theorem HS_load (n k : Nat) (cs : List (Int × Bool)) (hk : k < n) (hn : n ≤ 100) (v : Int) (b : Bool) (hc : cs[k]? = some (v, b)) : (HS n cs).load (addrOf 1 0 k) = if b then (v, 0) else (0, 15) := by
  unfold SS.load
  rw [HS_find n k cs hk hn]
  have : (HS n cs).cellAt 1 k = (v, b) := by simp [SS.cellAt, HS, hc]
  dsimp only
  rw [this]
  cases b <;> simp

theorem HS_other (n : Nat) (cs : List (Int × Bool)) : (HS n cs).load (addrOf 0 0 0) = (0, 15) := by rfl
end Go.Proofs.Ytpgoogjaoffdoaa
