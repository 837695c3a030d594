/- The reference's Key as a plain function; two programs have the same key just if they are the same. No program in sight. -/
import Derived.Test.YtpodeccpibnlbaaGreatDoorG04
import Derived.Test.YtpodeccpibnlbaaGreatDoorG34
namespace Go.Proofs.YtpodeccpibnlbaaGreatDoor
set_option linter.unusedVariables false
set_option linter.unusedSimpArgs false
open Go.RowKit

def keyB (s : ByteArray) : List UInt8 := digL s.size ++ 58 :: lst s
/-- A row: how many, a letter, each element. -/
def listK {α : Type} (c : UInt8) (f : α → List UInt8) (l : List α) : List UInt8 := digL l.length ++ c :: (l.map f).flatten
def keysL (l : List ByteArray) : List UInt8 := digL l.length ++ 91 :: (l.map keyB).flatten
def placeK (p : Pl) : List UInt8 := keyB p.loc ++ keysL p.steps
def placeKeysL (l : List Pl) : List UInt8 := digL l.length ++ 40 :: (l.map placeK).flatten
def varK (v : Vr) : List UInt8 := keyB v.name ++ keyB v.type
def varKeysL (l : List Vr) : List UInt8 := digL l.length ++ 123 :: (l.map varK).flatten
def flagL (b : Bool) : List UInt8 := if b then [49] else [48]
def sctK (s : Sct) : List UInt8 := keyB s.name ++ (flagL s.safe ++ (flagL s.hook ++ varKeysL s.fields))
def enmK (e : Enm) : List UInt8 := keyB e.name ++ varKeysL e.variants
def stmK (s : Stm) : List UInt8 := numberL s.kind ++ (placeKeysL [s.dest] ++ (numberL s.n ++ (59 :: (keyB s.name ++ (keyB s.variant ++ placeKeysL s.args)))))
def armK (a : Arm) : List UInt8 := keyB a.variant ++ (keyB a.loc ++ keyB a.block)
def trmK (t : Trm) : List UInt8 := numberL t.kind ++ (placeKeysL [t.dest] ++ (keyB t.name ++ (placeKeysL t.args ++ (keysL t.blocks ++ listK 97 armK t.arms))))
def blkK (b : Blk) : List UInt8 := keyB b.name ++ (listK 116 stmK b.stmts ++ trmK b.term)
def funK (f : Fun) : List UInt8 := keyB f.name ++ (varKeysL f.params ++ (varKeysL f.locals ++ (keyB f.result ++ listK 98 blkK f.blocks)))
def keyL (p : Prg) : List UInt8 := listK 115 sctK p.structs ++ (listK 101 enmK p.enums ++ listK 102 funK p.funcs)

/-- What is coded is told by its code, whatever follows. -/
def Dec {α : Type} (f : α → List UInt8) (R : α → α → Bool) : Prop := ∀ x y r s, f x ++ r = f y ++ s → R x y = true ∧ r = s
def Con {α : Type} (f : α → List UInt8) (R : α → α → Bool) : Prop := ∀ x y, R x y = true → f x = f y
theorem dec_flat {α : Type} {f : α → List UInt8} {R : α → α → Bool} (h : Dec f R) : ∀ (l m : List α) (r s : List UInt8), l.length = m.length → (l.map f).flatten ++ r = (m.map f).flatten ++ s → allZ R l m = true ∧ r = s
  | [], [], _, _, _, h => ⟨rfl, by simpa using h⟩
  | [], _ :: _, _, _, h, _ => by simp at h
  | _ :: _, [], _, _, h, _ => by simp at h
  | x :: l, y :: m, r, s, hl, he => by
    simp only [List.map_cons, List.flatten_cons, List.append_assoc] at he
    obtain ⟨h1, h2⟩ := h x y _ _ he
    obtain ⟨h3, h4⟩ := dec_flat h l m r s (by simpa using hl) h2
    exact ⟨by rw [allZ, h1, h3]; rfl, h4⟩
theorem dec_list {α : Type} {f : α → List UInt8} {R : α → α → Bool} (h : Dec f R) {c : UInt8} (hc : isDig c = false) : Dec (listK c f) (allZ R) := by
  intro l m r s he
  unfold listK at he
  simp only [List.append_assoc, List.cons_append] at he
  obtain ⟨h1, h2⟩ := dig_sep hc he
  exact dec_flat h l m r s h1 h2
theorem con_flat {α : Type} {f : α → List UInt8} {R : α → α → Bool} (h : Con f R) : ∀ l m : List α, allZ R l m = true → (l.map f).flatten = (m.map f).flatten ∧ l.length = m.length
  | [], [], _ => ⟨rfl, rfl⟩
  | [], _ :: _, h => by simp [allZ] at h
  | _ :: _, [], h => by simp [allZ] at h
  | x :: l, y :: m, he => by
    rw [allZ, Bool.and_eq_true] at he
    obtain ⟨h1, h2⟩ := con_flat h l m he.2
    exact ⟨by rw [List.map_cons, List.map_cons, List.flatten_cons, List.flatten_cons, h x y he.1, h1], by simp [h2]⟩
theorem con_list {α : Type} {f : α → List UInt8} {R : α → α → Bool} (h : Con f R) (c : UInt8) : Con (listK c f) (allZ R) := by
  intro l m he
  obtain ⟨h1, h2⟩ := con_flat h l m he
  unfold listK
  rw [h1, h2]

theorem lst_size (s : ByteArray) : (lst s).length = s.size := by simp [lst]
theorem dec_key : Dec keyB eqB := by
  intro x y r s h
  unfold keyB at h
  simp only [List.append_assoc, List.cons_append] at h
  obtain ⟨h1, h2⟩ := dig_sep (by decide) h
  obtain ⟨h3, h4⟩ := List.append_inj h2 (by rw [lst_size, lst_size, h1])
  refine ⟨(eqB_iff x y).2 ?_, h4⟩
  cases x; cases y
  congr 1
  exact Array.ext' h3
theorem con_key : Con keyB eqB := fun x y h => by rw [(eqB_iff x y).1 h]
theorem dec_keys : Dec keysL (allZ eqB) := dec_list dec_key (by decide)
theorem con_keys : Con keysL (allZ eqB) := con_list con_key _
theorem dec_place : Dec placeK equalP := by
  intro x y r s h
  unfold placeK at h
  rw [List.append_assoc, List.append_assoc] at h
  obtain ⟨h1, h2⟩ := dec_key _ _ _ _ h
  obtain ⟨h3, h4⟩ := dec_keys _ _ _ _ h2
  exact ⟨by unfold equalP; rw [h1, h3]; rfl, h4⟩
theorem con_place : Con placeK equalP := by
  intro x y h
  unfold equalP at h
  rw [Bool.and_eq_true] at h
  unfold placeK
  rw [con_key _ _ h.1, con_keys _ _ h.2]
theorem dec_places : Dec placeKeysL (allZ equalP) := dec_list dec_place (by decide)
theorem con_places : Con placeKeysL (allZ equalP) := con_list con_place _
theorem dec_var : Dec varK vrEqI := by
  intro x y r s h
  unfold varK at h
  rw [List.append_assoc, List.append_assoc] at h
  obtain ⟨h1, h2⟩ := dec_key _ _ _ _ h
  obtain ⟨h3, h4⟩ := dec_key _ _ _ _ h2
  exact ⟨by unfold vrEqI; rw [h1, h3]; rfl, h4⟩
theorem con_var : Con varK vrEqI := by
  intro x y h
  unfold vrEqI at h
  rw [Bool.and_eq_true] at h
  unfold varK
  rw [con_key _ _ h.1, con_key _ _ h.2]
theorem dec_vars : Dec varKeysL (allZ vrEqI) := dec_list dec_var (by decide)
theorem con_vars : Con varKeysL (allZ vrEqI) := con_list con_var _
theorem dec_flag : Dec flagL (· == ·) := by
  intro x y r s h
  cases x <;> cases y <;> simp [flagL] at h <;> simp [h]
theorem con_flag : Con flagL (· == ·) := by
  intro x y h
  rw [beq_iff_eq.1 h]
theorem dec_sct : Dec sctK sctEqI := by
  intro x y r s h
  unfold sctK at h
  simp only [List.append_assoc] at h
  obtain ⟨h1, h⟩ := dec_key _ _ _ _ h
  obtain ⟨h2, h⟩ := dec_flag _ _ _ _ h
  obtain ⟨h3, h⟩ := dec_flag _ _ _ _ h
  obtain ⟨h4, h⟩ := dec_vars _ _ _ _ h
  exact ⟨by unfold sctEqI; rw [h1, show (x.safe == y.safe) = true from h2, show (x.hook == y.hook) = true from h3, h4]; rfl, h⟩
theorem con_sct : Con sctK sctEqI := by
  intro x y h
  unfold sctEqI at h
  simp only [Bool.and_eq_true] at h
  obtain ⟨⟨⟨h1, h2⟩, h3⟩, h4⟩ := h
  unfold sctK
  rw [con_key _ _ h1, con_flag _ _ h2, con_flag _ _ h3, con_vars _ _ h4]
theorem dec_enm : Dec enmK enmEqI := by
  intro x y r s h
  unfold enmK at h
  simp only [List.append_assoc] at h
  obtain ⟨h1, h⟩ := dec_key _ _ _ _ h
  obtain ⟨h4, h⟩ := dec_vars _ _ _ _ h
  exact ⟨by unfold enmEqI; rw [h1, h4]; rfl, h⟩
theorem con_enm : Con enmK enmEqI := by
  intro x y h
  unfold enmEqI at h
  simp only [Bool.and_eq_true] at h
  obtain ⟨h1, h4⟩ := h
  unfold enmK
  rw [con_key _ _ h1, con_vars _ _ h4]
theorem one_place (p : Pl) : placeKeysL [p] = 49 :: 40 :: placeK p := by
  unfold placeKeysL
  rw [show [p].length = 1 from rfl, digL_1]
  simp
theorem dec_stm : Dec stmK stmEqI := by
  intro x y r s h
  unfold stmK at h
  simp only [List.append_assoc, one_place, List.cons_append] at h
  obtain ⟨h1, h⟩ := num_one h
  obtain ⟨h2, h⟩ := dec_place _ _ _ _ h
  obtain ⟨h3, h⟩ := num_sep (by decide) h
  obtain ⟨h4, h⟩ := dec_key _ _ _ _ h
  obtain ⟨h5, h⟩ := dec_key _ _ _ _ h
  obtain ⟨h6, h⟩ := dec_places _ _ _ _ h
  exact ⟨by unfold stmEqI; rw [decide_eq_true h1, decide_eq_true h3, h2, h4, h5, h6]; rfl, h⟩
theorem con_stm : Con stmK stmEqI := by
  intro x y h
  unfold stmEqI at h
  simp only [Bool.and_eq_true, decide_eq_true_iff] at h
  obtain ⟨⟨⟨⟨⟨h1, h2⟩, h3⟩, h4⟩, h5⟩, h6⟩ := h
  unfold stmK
  rw [h1, h2, con_key _ _ h3, con_key _ _ h4, one_place, one_place, con_place _ _ h5, con_places _ _ h6]
theorem dec_arm : Dec armK armEqI := by
  intro x y r s h
  unfold armK at h
  simp only [List.append_assoc] at h
  obtain ⟨h1, h⟩ := dec_key _ _ _ _ h
  obtain ⟨h2, h⟩ := dec_key _ _ _ _ h
  obtain ⟨h3, h⟩ := dec_key _ _ _ _ h
  exact ⟨by unfold armEqI; rw [h1, h2, h3]; rfl, h⟩
theorem con_arm : Con armK armEqI := by
  intro x y h
  unfold armEqI at h
  simp only [Bool.and_eq_true] at h
  obtain ⟨h1, h2, h3⟩ := h
  unfold armK
  rw [con_key _ _ h1, con_key _ _ h2, con_key _ _ h3]
theorem dec_arms : Dec (listK 97 armK) (allZ armEqI) := dec_list dec_arm (by decide)
theorem con_arms : Con (listK 97 armK) (allZ armEqI) := con_list con_arm _
theorem dec_trm : Dec trmK trmEqI := by
  intro x y r s h
  unfold trmK at h
  simp only [List.append_assoc, one_place, List.cons_append] at h
  obtain ⟨h1, h⟩ := num_one h
  obtain ⟨h2, h⟩ := dec_place _ _ _ _ h
  obtain ⟨h3, h⟩ := dec_key _ _ _ _ h
  obtain ⟨h4, h⟩ := dec_places _ _ _ _ h
  obtain ⟨h5, h⟩ := dec_keys _ _ _ _ h
  obtain ⟨h6, h⟩ := dec_arms _ _ _ _ h
  exact ⟨by unfold trmEqI; rw [decide_eq_true h1, h2, h3, h4, h5, h6]; rfl, h⟩
theorem con_trm : Con trmK trmEqI := by
  intro x y h
  unfold trmEqI at h
  simp only [Bool.and_eq_true, decide_eq_true_iff] at h
  obtain ⟨⟨⟨⟨⟨h1, h2⟩, h3⟩, h4⟩, h5⟩, h6⟩ := h
  unfold trmK
  have h7 := con_arms _ _ h6
  rw [h1, con_key _ _ h2, one_place, one_place, con_place _ _ h3, con_places _ _ h4, con_keys _ _ h5, h7]
theorem dec_stms : Dec (listK 116 stmK) (allZ stmEqI) := dec_list dec_stm (by decide)
theorem con_stms : Con (listK 116 stmK) (allZ stmEqI) := con_list con_stm _
theorem dec_blk : Dec blkK blkEqI := by
  intro x y r s h
  unfold blkK at h
  simp only [List.append_assoc] at h
  obtain ⟨h1, h⟩ := dec_key _ _ _ _ h
  obtain ⟨h2, h⟩ := dec_stms _ _ _ _ h
  obtain ⟨h3, h⟩ := dec_trm _ _ _ _ h
  exact ⟨by unfold blkEqI; rw [h1, h2, h3]; rfl, h⟩
theorem con_blk : Con blkK blkEqI := by
  intro x y h
  unfold blkEqI at h
  simp only [Bool.and_eq_true] at h
  obtain ⟨⟨h1, h2⟩, h3⟩ := h
  have h7 := con_stms _ _ h2
  unfold blkK
  rw [con_key _ _ h1, h7, con_trm _ _ h3]
theorem dec_blks : Dec (listK 98 blkK) (allZ blkEqI) := dec_list dec_blk (by decide)
theorem con_blks : Con (listK 98 blkK) (allZ blkEqI) := con_list con_blk _
theorem dec_fun : Dec funK funEqI := by
  intro x y r s h
  unfold funK at h
  simp only [List.append_assoc] at h
  obtain ⟨h1, h⟩ := dec_key _ _ _ _ h
  obtain ⟨h2, h⟩ := dec_vars _ _ _ _ h
  obtain ⟨h3, h⟩ := dec_vars _ _ _ _ h
  obtain ⟨h4, h⟩ := dec_key _ _ _ _ h
  obtain ⟨h5, h⟩ := dec_blks _ _ _ _ h
  exact ⟨by unfold funEqI; rw [h1, h2, h3, h4, h5]; rfl, h⟩
theorem con_fun : Con funK funEqI := by
  intro x y h
  unfold funEqI at h
  simp only [Bool.and_eq_true] at h
  obtain ⟨⟨⟨⟨h1, h2⟩, h3⟩, h4⟩, h5⟩ := h
  have h7 := con_blks _ _ h5
  unfold funK
  rw [con_key _ _ h1, con_key _ _ h2, con_vars _ _ h3, con_vars _ _ h4, h7]
/-- TWO PROGRAMS HAVE THE SAME KEY JUST IF THEY ARE THE SAME. -/
theorem key_same (a b : Prg) : keyL a = keyL b ↔ sameI a b = true := by
  constructor
  · intro h
    have h' : keyL a ++ [] = keyL b ++ [] := by rw [h]
    unfold keyL at h'
    simp only [List.append_assoc] at h'
    obtain ⟨h1, h'⟩ := dec_list dec_sct (c := 115) (by decide) a.structs b.structs _ _ h'
    obtain ⟨h2, h'⟩ := dec_list dec_enm (c := 101) (by decide) a.enums b.enums _ _ h'
    obtain ⟨h3, _⟩ := dec_list dec_fun (c := 102) (by decide) a.funcs b.funcs _ _ h'
    unfold sameI
    rw [h1, h2, h3]; rfl
  · intro h
    unfold sameI at h
    simp only [Bool.and_eq_true] at h
    obtain ⟨⟨h1, h2⟩, h3⟩ := h
    have k1 := con_list con_sct 115 _ _ h1
    have k2 := con_list con_enm 101 _ _ h2
    have k3 := con_list con_fun 102 _ _ h3
    unfold keyL
    rw [k1, k2, k3]
end Go.Proofs.YtpodeccpibnlbaaGreatDoor
