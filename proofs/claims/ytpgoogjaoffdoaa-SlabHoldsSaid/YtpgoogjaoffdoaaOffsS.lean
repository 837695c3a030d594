/- The slab as data through SlabOffs: pieces of these sizes, none of them freed. -/
import Derived.Test.YtpgoogjaoffdoaaRoomS
namespace Go.Proofs.Ytpgoogjaoffdoaa
set_option linter.unusedVariables false
set_option linter.unusedSimpArgs false

def OS (R : Nat) (zs : List Nat) : SS := ⟨R, zs.sum, zs.length, zs.map RP, []⟩

theorem OS_get (R : Nat) (zs : List Nat) (z : Nat) (h1 : 1 ≤ z) (h2 : z ≤ 4095) (h : zs.sum + z ≤ R) : (OS R zs).get z = ((addrOf zs.length 0 0, 0), OS R (zs ++ [z])) := by
  unfold SS.get
  rw [if_neg (by omega), if_neg (by simp only [OS]; omega)]
  have hi : (OS R zs).index = (zs.length, { OS R zs with places := zs.map RP ++ [⟨[], [], false⟩] }) := by simp [SS.index, OS]
  rw [hi]
  have hm := modify_last (zs.map RP) ⟨[], [], false⟩ (fun p => { sizes := p.sizes ++ [z], cells := List.replicate z (0, false), freed := false })
  simp only [List.length_map] at hm
  simp only [SS.upd, Int.toNat_natCast, hm]
  have h3 : (zs.map RP ++ [(⟨[], [], false⟩ : Pl)])[zs.length]? = some ⟨[], [], false⟩ := by rw [List.getElem?_append_right (by simp)]; simp
  rw [h3]
  simp [OS, RP]

theorem sum_le_of (zs : List Nat) (m : Nat) (h : ∀ z ∈ zs, z ≤ m) : zs.sum ≤ zs.length * m := by
  induction zs with
  | nil => simp
  | cons z zs ih =>
    have h1 := h z (by simp)
    have h2 := ih (fun y hy => h y (by simp [hy]))
    simp only [List.sum_cons, List.length_cons, Nat.add_mul, Nat.one_mul]
    omega

theorem OS_WF (zs : List Nat) (hz : ∀ z ∈ zs, 1 ≤ z ∧ z ≤ 256) (hl : zs.length ≤ 40) : ∀ k, k ≤ zs.length → (OS 16384 (zs.take k)).WF k := by
  intro k
  induction k with
  | zero => intro _; simpa [OS] using WF.start 16384 (by omega)
  | succ k ih =>
    intro h
    have hk : k < zs.length := by omega
    have hs := sum_le_of (zs.take k) 256 (fun z h => (hz z (List.mem_of_mem_take h)).2)
    rw [List.length_take] at hs
    have hm := hz zs[k] (List.getElem_mem hk)
    have := WF.get (ih (by omega)) (by omega) (zs[k] : Nat)
    rw [OS_get _ _ _ hm.1 (by omega) (by omega)] at this
    rw [List.take_add_one, List.getElem?_eq_getElem hk]
    exact this

theorem OS_find (zs : List Nat) (k f z : Nat) (hk : zs[k]? = some z) (hl : zs.length ≤ 40) (hf : f < z) (hz : z ≤ 256) : (OS 16384 zs).find (addrOf k 0 f) = (k, f, 0) := by
  have hkl := (List.getElem?_eq_some_iff.1 hk).1
  have hp : (OS 16384 zs).places[k]? = some (RP z) := by simp [OS, hk]
  have f1 : ¬ addrOf k 0 f < lowMark := by unfold addrOf lowMark; omega
  have f2 : (addrOf k 0 f - lowMark) % 4294967296 / 4096 = k := by unfold addrOf lowMark; omega
  have f3 : (addrOf k 0 f - lowMark) / 4294967296 = 0 := by unfold addrOf lowMark; omega
  have f4 : addrOf k 0 f % 4096 = f := by unfold addrOf; omega
  unfold SS.find
  rw [if_neg f1, f2, hp, f3, f4]
  simp [RP]; omega

theorem OS_off_yes (zs : List Nat) (k f z : Nat) (n : Int) (g : Nat) (hk : zs[k]? = some z) (hl : zs.length ≤ 40) (hf : f < z) (hz : z ≤ 256) (hg : (f : Int) + n = g) (hgz : g < z) :
    (OS 16384 zs).off (addrOf k 0 f) n = (addrOf k 0 g, 0) := by
  have hp : (OS 16384 zs).places[k]? = some (RP z) := by simp [OS, hk]
  unfold SS.off
  rw [OS_find zs k f z hk hl hf hz]
  simp only [ne_eq, not_true, if_false, SS.lenAt, SS.ageAt, hp, Option.map_some, Option.getD_some, RP, List.length_replicate, List.length_singleton, Nat.sub_self]
  rw [if_neg (by omega), hg, Int.toNat_natCast]

theorem OS_off_no (zs : List Nat) (k f z : Nat) (n : Int) (hk : zs[k]? = some z) (hl : zs.length ≤ 40) (hf : f < z) (hz : z ≤ 256) (hg : (f : Int) + n < 0 ∨ (z : Int) ≤ (f : Int) + n) :
    (OS 16384 zs).off (addrOf k 0 f) n = (0, 11) := by
  have hp : (OS 16384 zs).places[k]? = some (RP z) := by simp [OS, hk]
  unfold SS.off
  rw [OS_find zs k f z hk hl hf hz]
  simp only [ne_eq, not_true, if_false, SS.lenAt, SS.ageAt, hp, Option.map_some, Option.getD_some, RP, List.length_replicate, List.length_singleton, Nat.sub_self]
  rw [if_pos (by omega)]

theorem OS_size (zs : List Nat) (k f z : Nat) (hk : zs[k]? = some z) (hl : zs.length ≤ 40) (hf : f < z) (hz : z ≤ 256) : (OS 16384 zs).size (addrOf k 0 f) = (z, 0) := by
  have hp : (OS 16384 zs).places[k]? = some (RP z) := by simp [OS, hk]
  unfold SS.size
  rw [OS_find zs k f z hk hl hf hz]
  simp [SS.lenAt, hp, RP]
end Go.Proofs.Ytpgoogjaoffdoaa
