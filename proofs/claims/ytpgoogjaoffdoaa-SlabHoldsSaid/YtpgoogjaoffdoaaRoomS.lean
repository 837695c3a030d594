/- The slab as data through SlabRoom: k pieces of n, one of them freed, one got anew. -/
import Derived.Test.YtpgoogjaoffdoaaP
namespace Go.Proofs.Ytpgoogjaoffdoaa
set_option linter.unusedVariables false
set_option linter.unusedSimpArgs false

def RP (n : Nat) : Pl := ⟨[n], List.replicate n (0, false), false⟩
def RS (R n k : Nat) : SS := ⟨R, k * n, k, List.replicate k (RP n), []⟩
def RF (R n k j : Nat) : SS := ⟨R, k * n - n, k - 1, (List.replicate k (RP n)).set j ⟨[n], [], true⟩, [j]⟩
def RG (R n k j : Nat) : SS := ⟨R, k * n, k, (List.replicate k (RP n)).set j ⟨[n, n], List.replicate n (0, false), false⟩, []⟩

theorem modify_last (l : List Pl) (x : Pl) (f : Pl → Pl) : (l ++ [x]).modify l.length f = l ++ [f x] := by
  induction l with
  | nil => rfl
  | cons a l ih => simpa using ih

theorem RS_get_yes (R n k : Nat) (h1 : 1 ≤ n) (h2 : n ≤ 4095) (h : k * n + n ≤ R) : (RS R n k).get n = ((addrOf k 0 0, 0), RS R n (k + 1)) := by
  unfold SS.get
  rw [if_neg (by omega), if_neg (by simp only [RS]; omega)]
  have hi : (RS R n k).index = (k, { RS R n k with places := List.replicate k (RP n) ++ [⟨[], [], false⟩] }) := by simp [SS.index, RS]
  rw [hi]
  have hm := modify_last (List.replicate k (RP n)) ⟨[], [], false⟩ (fun p => { sizes := p.sizes ++ [n], cells := List.replicate n (0, false), freed := false })
  simp only [List.length_replicate] at hm
  simp only [SS.upd, Int.toNat_natCast, hm]
  have h3 : (List.replicate k (RP n) ++ [(⟨[], [], false⟩ : Pl)])[k]? = some ⟨[], [], false⟩ := by rw [List.getElem?_append_right (by simp)]; simp
  rw [h3]
  simp only [RS, RP, List.nil_append, Option.map_some, Option.getD_some, List.length_nil, List.replicate_succ']
  rw [Nat.add_mul, Nat.one_mul]

theorem RS_get_no (R n k : Nat) (h1 : 1 ≤ n) (h2 : n ≤ 4095) (h : R < k * n + n) : (RS R n k).get n = ((0, 13), RS R n k) := by
  unfold SS.get
  rw [if_neg (by omega), if_pos (by simp only [RS]; omega)]

theorem RS_WF (R n : Nat) (hR : R ≤ 16384) (h1 : 1 ≤ n) (h2 : n ≤ 4095) : ∀ k, k * n ≤ R → (RS R n k).WF k := by
  intro k
  induction k with
  | zero => intro _; simpa [RS] using WF.start R hR
  | succ k ih =>
    intro h
    rw [Nat.add_mul, Nat.one_mul] at h
    have hk : k ≤ k * n := Nat.le_mul_of_pos_right k h1
    have := WF.get (ih (by omega)) (by omega) n
    rw [RS_get_yes R n k h1 h2 h] at this
    exact this

theorem addrOf0 (i : Nat) (hi : i < 1048576) (age : Nat) (ha : age < 1024) : ¬ addrOf i age 0 < lowMark ∧ (addrOf i age 0 - lowMark) % 4294967296 / 4096 = i ∧ (addrOf i age 0 - lowMark) / 4294967296 = age ∧ addrOf i age 0 % 4096 = 0 := by
  unfold addrOf lowMark
  refine ⟨by omega, by omega, by omega, by omega⟩

theorem RS_free (R n k j : Nat) (hk : k < 1048576) (h1 : 1 ≤ n) (hj : j < k) : (RS R n k).free1 (addrOf j 0 0) = (0, RF R n k j) := by
  obtain ⟨f1, f2, f3, f4⟩ := addrOf0 j (by omega) 0 (by omega)
  have hp : (RS R n k).places[j]? = some (RP n) := by simp [RS, List.getElem?_replicate, hj]
  have hf : (RS R n k).find (addrOf j 0 0) = (j, 0, 0) := by
    unfold SS.find
    rw [if_neg f1, f2, hp, f3, f4]
    simp [RP]; omega
  unfold SS.free1
  rw [hf]
  simp only [ne_eq, not_true, if_false, SS.upd, hp]
  rw [modify_set _ _ _ _ hp]
  simp [RF, RS, RP]

theorem RF_get (R n k j : Nat) (hk : k < 1048576) (h1 : 1 ≤ n) (h2 : n ≤ 4095) (hj : j < k) (hR : k * n ≤ R) : (RF R n k j).get n = ((addrOf j 1 0, 0), RG R n k j) := by
  have hkn : n ≤ k * n := Nat.le_mul_of_pos_left n (by omega)
  have hp : (RF R n k j).places[j]? = some ⟨[n], [], true⟩ := by simp [RF, hj]
  unfold SS.get
  rw [if_neg (by omega), if_neg (by simp only [RF]; omega)]
  have hi : (RF R n k j).index = (j, { RF R n k j with free := [] }) := by simp [SS.index, RF]
  rw [hi]
  simp only [SS.upd, hp, Int.toNat_natCast, Option.map_some, Option.getD_some]
  rw [modify_set _ _ _ _ hp]
  simp only [RF, RG, List.set_set, List.length_singleton, List.singleton_append, List.cons_append, List.nil_append, List.length_cons, List.length_nil]
  rw [Nat.sub_add_cancel hkn, Nat.sub_add_cancel (show 1 ≤ k by omega)]

theorem RG_get (R n k j : Nat) (h1 : 1 ≤ n) (h2 : n ≤ 4095) (h : R < k * n + n) : (RG R n k j).get n = ((0, 13), RG R n k j) := by
  unfold SS.get
  rw [if_neg (by omega), if_pos (by simp only [RG]; omega)]

theorem RF_WF (R n k j : Nat) (hR : R ≤ 16384) (h1 : 1 ≤ n) (h2 : n ≤ 4095) (hk : k * n ≤ R) (hj : j < k) : (RF R n k j).WF k := by
  have hkk : k ≤ k * n := Nat.le_mul_of_pos_right k h1
  have := WF.free (RS_WF R n hR h1 h2 k hk) (addrOf j 0 0)
  rw [RS_free R n k j (by omega) h1 hj] at this
  exact this

theorem RG_WF (R n k j : Nat) (hR : R ≤ 16384) (h1 : 1 ≤ n) (h2 : n ≤ 4095) (hk : k * n ≤ R) (hj : j < k) : (RG R n k j).WF (k + 1) := by
  have hkk : k ≤ k * n := Nat.le_mul_of_pos_right k h1
  have := WF.get (RF_WF R n k j hR h1 h2 hk hj) (by omega) n
  rw [RF_get R n k j (by omega) h1 h2 hj hk] at this
  exact this

/-- The quotient: so many pieces. -/
theorem RS_many (R n k : Nat) (h1 : 1 ≤ n) (h : k * n ≤ R) (h' : R < k * n + n) : R / n = k := by
  exact Nat.div_eq_of_lt_le h (by rw [Nat.add_mul, Nat.one_mul]; exact h')
end Go.Proofs.Ytpgoogjaoffdoaa
