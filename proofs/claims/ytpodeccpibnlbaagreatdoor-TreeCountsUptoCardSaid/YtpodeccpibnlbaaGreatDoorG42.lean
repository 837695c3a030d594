/- How long a key, and a row of uses, is at most, by the bulk of what came in. No program in sight. -/
import Derived.Test.YtpodeccpibnlbaaGreatDoorG35
import Derived.Test.YtpodeccpibnlbaaGreatDoorG32
namespace Go.Proofs.YtpodeccpibnlbaaGreatDoor
set_option linter.unusedVariables false
set_option linter.unusedSimpArgs false
set_option maxRecDepth 100000
open Go.RowKit

theorem SR.mem {α : Type} {S : Nat → Prop} {w : World} {n : Nat} {V : Value → α → Prop} {oa : Option Addr} {len cap : Nat} {l : List α} (h : SR S w n V oa len cap l) {x : α} (hx : x ∈ l) : ∃ v, V v x := by
  obtain ⟨i, hi⟩ := List.getElem?_of_mem hx
  obtain ⟨_, _, v, _, _, _, _, hv⟩ := h.at' i x hi
  exact ⟨v, hv⟩
/-- Numbers are numbers of 64 bits. -/
def OkS (s : Stm) : Prop := I64 s.kind ∧ I64 s.n
def OkB (b : Blk) : Prop := (∀ s ∈ b.stmts, OkS s) ∧ I64 b.term.kind
def OkF (f : Fun) : Prop := ∀ b ∈ f.blocks, OkB b
section
variable {S : Nat → Prop} {w : World} {v : Value}
theorem ok_stm {s : Stm} (h : stmV S w v s) : OkS s := ⟨h.2.1, h.2.2.1⟩
theorem ok_blk {b : Blk} (h : blkV S w v b) : OkB b := by
  obtain ⟨_, _, _, _, _, _, _, _, _, _, _, _, _, _, _, _, _, _, hst, htr⟩ := h
  exact ⟨fun s hs => by obtain ⟨v, hv⟩ := hst.mem hs; exact ok_stm hv, htr.2.1⟩
theorem ok_fun {f : Fun} (h : funV S w v f) : OkF f := by
  obtain ⟨_, _, _, _, _, _, _, _, _, _, _, _, _, _, _, hb⟩ := h
  exact fun b hb' => by obtain ⟨v, hv⟩ := hb.mem hb'; exact ok_blk hv
theorem ok_prg {p : Prg} (h : prgV S w v p) : ∀ f ∈ p.funcs, OkF f := by
  obtain ⟨_, _, _, _, _, _, _, _, _, _, _, _, hf⟩ := h
  exact fun f hf' => by obtain ⟨v, hv⟩ := hf.mem hf'; exact ok_fun hv
end
theorem digL_le (n : Nat) : (digL n).length ≤ n + 1 := by
  induction n using Nat.strongRecOn with
  | _ n ih =>
    by_cases h : n < 10
    · rw [digL_lt h]; simp
    · rw [digL_ge h, List.length_append, List.length_singleton]
      have := ih (n / 10) (by omega)
      omega
theorem digL_le20 : ∀ (j n : Nat), n < 10 ^ (j + 1) → (digL n).length ≤ j + 1
  | 0, n, h => by rw [digL_lt (by simpa using h)]; simp
  | j + 1, n, h => by
    by_cases h10 : n < 10
    · rw [digL_lt h10]; simp
    · rw [digL_ge h10, List.length_append]
      have := digL_le20 j (n / 10) (by rw [Nat.div_lt_iff_lt_mul (by omega)]; rw [Nat.pow_succ] at h; exact h)
      simp; omega
theorem number_le {k : Int} (h : I64 k) : (numberL k).length ≤ 21 := by
  have := digL_le20 19 k.natAbs (by obtain ⟨h1, h2⟩ := h; omega)
  unfold numberL
  split
  · rw [List.length_cons]; omega
  · omega
theorem keyB_le (s : ByteArray) : (keyB s).length ≤ 2 * szS s := by
  have := digL_le s.size
  unfold keyB szS
  rw [List.length_append, List.length_cons, lst_len]
  omega
theorem flat_le {α : Type} {f : α → List UInt8} {sz : α → Nat} {c : Nat} : ∀ {l : List α}, (∀ x ∈ l, (f x).length ≤ c * sz x) → ((l.map f).flatten).length ≤ c * (l.map sz).sum
  | [], _ => by simp
  | x :: l, h => by
    have h0 := h x (by simp)
    have h1 := flat_le (fun y hy => h y (List.mem_cons_of_mem _ hy))
    rw [List.map_cons, List.flatten_cons, List.length_append, List.map_cons, List.sum_cons, Nat.mul_add]
    omega
theorem listK_le {α : Type} {f : α → List UInt8} {sz : α → Nat} (c : Nat) (ch : UInt8) (hc : 1 ≤ c) (h1 : ∀ x, 1 ≤ sz x) {l : List α} (h : ∀ x ∈ l, (f x).length ≤ c * sz x) : (listK ch f l).length ≤ (c + 1) * szR sz l := by
  have e1 := digL_le l.length
  have e2 := flat_le h
  have e3 := sum_one sz h1 l
  unfold listK szR
  rw [List.length_append, List.length_cons, Nat.add_mul, Nat.mul_add]
  omega
theorem keys_le (l : List ByteArray) : (keysL l).length ≤ 3 * szR szS l := listK_le 2 91 (by omega) szS_one (fun x _ => keyB_le x)
theorem place_le (p : Pl) : (placeK p).length ≤ 3 * szPl p := by
  have h1 := keyB_le p.loc
  have h2 := keys_le p.steps
  unfold placeK szPl
  rw [List.length_append]
  omega
theorem placeKeys_le (l : List Pl) : (placeKeysL l).length ≤ 4 * szR szPl l := listK_le 3 40 (by omega) szPl_one (fun x _ => place_le x)
theorem var_le (v : Vr) : (varK v).length ≤ 2 * szVr v := by
  have h1 := keyB_le v.name
  have h2 := keyB_le v.type
  unfold varK szVr
  rw [List.length_append]
  omega
theorem varKeys_le (l : List Vr) : (varKeysL l).length ≤ 3 * szR szVr l := listK_le 2 123 (by omega) szVr_one (fun x _ => var_le x)
theorem flag_le (b : Bool) : (flagL b).length = 1 := by cases b <;> rfl
theorem sct_le (s : Sct) : (sctK s).length ≤ 3 * szSct s := by
  have h1 := keyB_le s.name
  have h2 := varKeys_le s.fields
  unfold sctK szSct
  rw [List.length_append, List.length_append, List.length_append, flag_le, flag_le]
  omega
theorem enm_le (e : Enm) : (enmK e).length ≤ 3 * szEnm e := by
  have h1 := keyB_le e.name
  have h2 := varKeys_le e.variants
  unfold enmK szEnm
  rw [List.length_append]
  omega
theorem one_le (p : Pl) : (placeKeysL [p]).length ≤ 4 * szPl p + 4 := by
  have h := placeKeys_le [p]
  simp only [szR, List.map_cons, List.map_nil, List.sum_cons, List.sum_nil] at h
  omega
theorem stm_le {s : Stm} (h : OkS s) : (stmK s).length ≤ 24 * szStm s := by
  have h1 := number_le h.1
  have h2 := number_le h.2
  have h3 := one_le s.dest
  have h4 := keyB_le s.name
  have h5 := keyB_le s.variant
  have h6 := placeKeys_le s.args
  unfold stmK szStm
  rw [List.length_append, List.length_append, List.length_append, List.length_cons, List.length_append, List.length_append]
  omega
theorem arm_le (a : Arm) : (armK a).length ≤ 2 * szArm a := by
  have h1 := keyB_le a.variant
  have h2 := keyB_le a.loc
  have h3 := keyB_le a.block
  unfold armK szArm
  rw [List.length_append, List.length_append]
  omega
theorem trm_le {t : Trm} (h : I64 t.kind) : (trmK t).length ≤ 24 * szTrm t := by
  have h1 := number_le h
  have h3 := one_le t.dest
  have h4 := keyB_le t.name
  have h5 := placeKeys_le t.args
  have h6 := keys_le t.blocks
  have h7 : (listK 97 armK t.arms).length ≤ 3 * szR szArm t.arms := listK_le 2 97 (by omega) szArm_one (fun x _ => arm_le x)
  unfold trmK szTrm
  rw [List.length_append, List.length_append, List.length_append, List.length_append, List.length_append]
  omega
theorem blk_le {b : Blk} (h : OkB b) : (blkK b).length ≤ 25 * szBlk b := by
  have h1 := keyB_le b.name
  have h2 : (listK 116 stmK b.stmts).length ≤ 25 * szR szStm b.stmts := listK_le 24 116 (by omega) szStm_one (fun x hx => stm_le (h.1 x hx))
  have h3 := trm_le h.2
  unfold blkK szBlk
  rw [List.length_append, List.length_append]
  omega
theorem fun_le {f : Fun} (h : OkF f) : (funK f).length ≤ 26 * szFun f := by
  have h1 := keyB_le f.name
  have h2 := varKeys_le f.params
  have h3 := varKeys_le f.locals
  have h4 := keyB_le f.result
  have h5 : (listK 98 blkK f.blocks).length ≤ 26 * szR szBlk f.blocks := listK_le 25 98 (by omega) szBlk_one (fun x hx => blk_le (h x hx))
  unfold funK szFun
  rw [List.length_append, List.length_append, List.length_append, List.length_append]
  omega
/-- A key is as long as this, at most. -/
theorem key_le {p : Prg} (h : ∀ f ∈ p.funcs, OkF f) : (keyL p).length ≤ 27 * szPrg p := by
  have h1 : (listK 115 sctK p.structs).length ≤ 4 * szR szSct p.structs := listK_le 3 115 (by omega) szSct_one (fun x _ => sct_le x)
  have h2 : (listK 101 enmK p.enums).length ≤ 4 * szR szEnm p.enums := listK_le 3 101 (by omega) szEnm_one (fun x _ => enm_le x)
  have h3 : (listK 102 funK p.funcs).length ≤ 27 * szR szFun p.funcs := listK_le 26 102 (by omega) szFun_one (fun x hx => fun_le (h x hx))
  unfold keyL szPrg
  rw [List.length_append, List.length_append]
  omega

theorem places_le (args : List Pl) (p : Pl) : (placesI args p).length ≤ args.length + 1 := by
  unfold placesI
  split
  · omega
  · simp
theorem args_le (s : Stm) : s.args.length + 1 ≤ szStm s := by
  have := sum_one szPl szPl_one s.args
  unfold szStm szR
  omega
theorem targs_le (t : Trm) : t.args.length + 1 ≤ szTrm t := by
  have := sum_one szPl szPl_one t.args
  unfold szTrm szR
  omega
theorem flatlen_le {α β : Type} {f : α → List β} {sz : α → Nat} : ∀ {l : List α}, (∀ x ∈ l, (f x).length ≤ sz x) → ((l.map f).flatten).length ≤ (l.map sz).sum
  | [], _ => by simp
  | x :: l, h => by
    have h0 := h x (by simp)
    have h1 := flatlen_le (fun y hy => h y (List.mem_cons_of_mem _ hy))
    rw [List.map_cons, List.flatten_cons, List.length_append, List.map_cons, List.sum_cons]
    omega
theorem stmsUses_le (l : List Stm) : (stmsUses l).length ≤ (l.map szStm).sum := flatlen_le (fun s _ => Nat.le_trans (places_le _ _) (args_le s))
theorem blkUses_le (b : Blk) : (blkUses b).length ≤ szBlk b := by
  have h1 := stmsUses_le b.stmts
  have h2 : (trmUses b.term).length ≤ szTrm b.term := Nat.le_trans (places_le _ _) (targs_le b.term)
  unfold blkUses szBlk szR
  rw [List.length_append]
  omega
theorem uses_le (f : Fun) : (usesI f).length ≤ szFun f := by
  have h : (usesI f).length ≤ (f.blocks.map szBlk).sum := flatlen_le (fun b _ => blkUses_le b)
  unfold szFun szR
  omega
theorem blocks_le {f : Fun} {b : Blk} (hb : b ∈ f.blocks) : szBlk b ≤ szFun f := by
  have h := mem_le szBlk hb
  unfold szFun szR
  omega
theorem stmts_le {b : Blk} {s : Stm} (hs : s ∈ b.stmts) : szStm s ≤ szBlk b := by
  have h := mem_le szStm hs
  unfold szBlk szR
  omega
theorem term_le (b : Blk) : szTrm b.term ≤ szBlk b := by
  unfold szBlk szR
  omega
theorem funcs_le {p : Prg} {f : Fun} (hf : f ∈ p.funcs) : szFun f ≤ szPrg p := by
  have h := mem_le szFun hf
  unfold szPrg szR
  omega
theorem vars_le (f : Fun) : f.params.length + f.locals.length ≤ szFun f := by
  have h1 := sum_one szVr szVr_one f.params
  have h2 := sum_one szVr szVr_one f.locals
  unfold szFun szR
  omega
end Go.Proofs.YtpodeccpibnlbaaGreatDoor
