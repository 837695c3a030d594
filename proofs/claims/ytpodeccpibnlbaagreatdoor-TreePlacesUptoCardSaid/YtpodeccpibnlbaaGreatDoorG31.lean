/- A text's parts between its dots; a place comes back by its text. No program in sight. The reference's Read, walked: it answers as tree's Place. -/
import Derived.Test.YtpodeccpibnlbaaGreatDoorG18
import Derived.Test.YtpodeccpibnlbaaGreatDoorG04
import Derived.Lib.IndexBytes
import Derived.Lib.IndexLaws
import Derived.Test.YtpodeccpibnlbaaGreatDoorG30
import Derived.BigRegion
namespace Go.Proofs.YtpodeccpibnlbaaGreatDoor
set_option linter.unusedVariables false
set_option linter.unusedSimpArgs false
open Go.RowKit

/-- The parts between the dots, the first of which began with what is held. -/
def splitL (cur : List UInt8) : List UInt8 → List (List UInt8)
  | [] => [cur]
  | c :: s => if c = 46 then cur :: splitL [] s else splitL (cur ++ [c]) s
theorem splitL_dot (cur s : List UInt8) : splitL cur (46 :: s) = cur :: splitL [] s := by rw [splitL, if_pos rfl]
theorem splitL_ne {c : UInt8} (cur s : List UInt8) (h : c ≠ 46) : splitL cur (c :: s) = splitL (cur ++ [c]) s := by rw [splitL, if_neg h]
theorem splitL_none : ∀ (a cur : List UInt8), (46 : UInt8) ∉ a → splitL cur a = [cur ++ a]
  | [], cur, _ => by simp [splitL]
  | c :: a, cur, h => by
    rw [splitL_ne _ _ (fun e => h (by simp [e])), splitL_none a _ (fun e => h (by simp [e]))]
    simp
theorem splitL_at : ∀ (a cur b : List UInt8), (46 : UInt8) ∉ a → splitL cur (a ++ 46 :: b) = (cur ++ a) :: splitL [] b
  | [], cur, b, _ => by simp [splitL_dot]
  | c :: a, cur, b, h => by
    rw [List.cons_append, splitL_ne _ _ (fun e => h (by simp [e])), splitL_at a _ b (fun e => h (by simp [e]))]
    simp
theorem splitK_is : ∀ (k : Nat) (s : List UInt8), s.count 46 = k → Lib.splitK [46] 0 k s = splitL [] s
  | 0, s, h => by
    rw [splitL_none s [] (List.count_eq_zero.1 h)]
    rfl
  | k + 1, s, h => by
    unfold Lib.splitK
    rw [Lib.index_one]
    split
    · rename_i hm
      have hm := beq_iff_eq.1 hm
      have : s.count 46 = 0 := List.count_eq_zero.2 (fun hmem => by
        obtain ⟨j, hj⟩ := List.getElem?_of_mem hmem
        exact Lib.indexByte_none hm j hj)
      omega
    · rename_i hm
      have hge : -1 ≤ Lib.indexByte s 46 := by rw [← Lib.index_one]; exact Lib.index_ge _ _
      have hm' : Lib.indexByte s 46 ≠ -1 := fun e => hm (beq_iff_eq.2 e)
      obtain ⟨o, ho⟩ : ∃ o : Nat, Lib.indexByte s 46 = o := ⟨(Lib.indexByte s 46).toNat, by omega⟩
      obtain ⟨h1, h2⟩ := Lib.indexByte_some ho
      rw [ho]
      obtain ⟨hol, hoe⟩ := List.getElem?_eq_some_iff.1 h1
      have hs : s = s.take o ++ 46 :: s.drop (o + 1) := by
        conv => lhs; rw [← List.take_append_drop o s, List.drop_eq_getElem_cons hol, hoe]
      have hno : (46 : UInt8) ∉ s.take o := fun hmem => by
        obtain ⟨j, hj⟩ := List.getElem?_of_mem hmem
        rw [List.getElem?_take] at hj
        split at hj
        · exact h2 j (by assumption) hj
        · cases hj
      have hc : (s.drop (o + 1)).count 46 = k := by
        rw [hs, List.count_append, List.count_eq_zero.2 hno, List.count_cons_self] at h
        omega
      conv => rhs; rw [hs, splitL_at _ _ _ hno, List.nil_append]
      rw [← splitK_is k _ hc]
      simp
theorem parts_split (s : ByteArray) : (partsB s).map lst = splitL [] (lst s) := by
  rw [← splitK_is _ _ rfl]
  have h := Lib.splitB_data ⟨#[46]⟩ 0 (Lib.countB s ⟨#[46]⟩) s
  have hc : Lib.countB s ⟨#[46]⟩ = (lst s).count 46 := Lib.count_one 46 _
  rw [hc] at h
  unfold partsB
  rw [hc]
  exact h
theorem lst_inj {a b : ByteArray} (h : lst a = lst b) : a = b := by rw [eq_mk a, eq_mk b, h]
theorem map_lst_inj : ∀ {a b : List ByteArray}, a.map lst = b.map lst → a = b
  | [], [], _ => rfl
  | [], _ :: _, h => by simp at h
  | _ :: _, [], h => by simp at h
  | x :: a, y :: b, h => by
    simp only [List.map_cons, List.cons.injEq] at h
    rw [lst_inj h.1, map_lst_inj h.2]
theorem parts_are {s : ByteArray} {P : List ByteArray} (h : P.map lst = splitL [] (lst s)) : P = partsB s := map_lst_inj (h.trans (parts_split s).symm)

theorem not_inner46 : innerB 46 = false := by decide
theorem name_no_dot {l : Bs} (h : isName l = true) : (46 : UInt8) ∉ l := by
  intro hm
  unfold isName at h
  simp only [Bool.and_eq_true, List.all_eq_true] at h
  have := h.2 46 hm
  rw [not_inner46] at this
  cases this
theorem step_no_dot {s : ByteArray} (h : stepI s = true) : (46 : UInt8) ∉ lst s := by
  unfold stepI at h
  rw [Bool.or_eq_true] at h
  rcases h with h | h
  · rw [of_decide_eq_true h]; decide
  · exact name_no_dot h
theorem split_text : ∀ (r : List ByteArray) (x : Bs), (46 : UInt8) ∉ x → (∀ s ∈ r, (46 : UInt8) ∉ lst s) → splitL [] (x ++ (r.map (fun s => 46 :: lst s)).flatten) = x :: r.map lst
  | [], x, h, _ => by simp [splitL_none x [] h]
  | y :: r, x, h, hr => by
    rw [List.map_cons, List.flatten_cons, List.cons_append, splitL_at x [] _ h, split_text r (lst y) (hr y (by simp)) (fun s hs => hr s (by simp [hs]))]
    simp
/-- A place that is one comes back by its text. -/
theorem place_back {p : Pl} (h : placeI p = true) : PlaceI (textI p) = (p, true) := by
  have hp := h
  unfold placeI at hp
  simp only [Bool.and_eq_true, List.all_eq_true] at hp
  have h1 : isName (lst p.loc) = true := by first | exact hp.1.1 | exact hp.1.2 | exact hp.2.1
  have h2 : ∀ s ∈ p.steps, stepI s = true := by first | exact hp.2 | exact hp.1.2
  have e : partsB (textI p) = p.loc :: p.steps := by
    refine (parts_are ?_).symm
    have : lst (textI p) = textL p := lst_mk _
    rw [this]
    unfold textL
    rw [split_text _ _ (name_no_dot h1) (fun s hs => step_no_dot (h2 s hs))]
    rfl
  have e2 : placeOf (textI p) = p := by
    unfold placeOf headB restB
    rw [e]
    rfl
  unfold PlaceI
  rw [e2, if_pos h]
theorem allZ_self {α : Type} {f : α → α → Bool} (hf : ∀ x, f x x = true) : ∀ l : List α, allZ f l l = true
  | [] => rfl
  | x :: l => by rw [allZ, hf, allZ_self hf l]; rfl
theorem equalP_self (p : Pl) : equalP p p = true := by
  unfold equalP
  rw [eqB_self, allZ_self eqB_self]
  rfl
end Go.Proofs.YtpodeccpibnlbaaGreatDoor
namespace Go.Proofs.YtpodeccpibnlbaaGreatDoor
set_option linter.unusedVariables false
set_option linter.unusedSimpArgs false
open Go.RowKit

theorem lst_piece (s : ByteArray) (a b : Nat) : lst (s.extract a b) = ((lst s).drop a).take (b - a) := by
  conv => lhs; rw [eq_mk s, ByteArray.extract_mk, lst_mk]

/-- What the loop keeps: parts up to the last dot, and what came behind it. -/
def ReadInv (s : ByteArray) (fr i : Nat) (P : List ByteArray) : Prop :=
  (i ≤ s.size → P.map lst ++ splitL (((lst s).drop fr).take (i - fr)) ((lst s).drop i) = splitL [] (lst s)) ∧ (¬ i ≤ s.size → P.map lst = splitL [] (lst s))
theorem ReadInv.start (s : ByteArray) : ReadInv s 0 0 [] := ⟨fun _ => by simp, fun h => absurd (Nat.zero_le _) h⟩
theorem ReadInv.dot {s : ByteArray} {fr i : Nat} {P : List ByteArray} (h : ReadInv s fr i P) (hi : i < s.size) (hc : s[i] = 46) : ReadInv s (i + 1) (i + 1) (P ++ [s.extract fr i]) := by
  refine ⟨fun hl => ?_, fun hl => absurd hi (by omega)⟩
  have h1 := h.1 (by omega)
  rw [lst_drop hi, hc, splitL_dot] at h1
  rw [List.map_append, List.append_assoc, ← h1, List.map_cons, lst_piece]
  simp
theorem ReadInv.step {s : ByteArray} {fr i : Nat} {P : List ByteArray} (h : ReadInv s fr i P) (hi : i < s.size) (hf : fr ≤ i) (hc : s[i] ≠ 46) : ReadInv s fr (i + 1) P := by
  refine ⟨fun hl => ?_, fun hl => absurd hi (by omega)⟩
  have h1 := h.1 (by omega)
  rw [lst_drop hi, splitL_ne _ _ hc] at h1
  rw [← h1]
  congr 2
  rw [show i + 1 - fr = i - fr + 1 by omega, List.take_add_one, List.getElem?_drop, show fr + (i - fr) = i by omega, lst_get hi]
  rfl
theorem ReadInv.last {s : ByteArray} {fr i : Nat} {P : List ByteArray} (h : ReadInv s fr i P) (hi : i = s.size) : ReadInv s (i + 1) (i + 1) (P ++ [s.extract fr i]) := by
  refine ⟨fun hl => absurd hl (by omega), fun _ => ?_⟩
  have h1 := h.1 (by omega)
  have hd : (lst s).drop i = [] := List.drop_eq_nil_of_le (by rw [lst_len]; omega)
  rw [hd, splitL] at h1
  rw [List.map_append, ← h1, List.map_cons, lst_piece]
  rfl

/-- A row without its first element. -/
theorem run_slice_1c {P : Program} (t e : TypeId) (i : TypeInfo) (ht : P.underlying t = some (.slice e)) (hi : P.info? e = some i) (hsize : i.size = 1) (g n c : Nat) (hc : n + 1 ≤ c) :
    ∃ ad : Addr, (∀ w, (Instr.slice t (.slice (some ⟨g, 0, none⟩) (n + 1) c) (some (.int .i64 1)) none none).run P w = .ok (.slice (some ad) n (c - 1)) w) ∧ (0 < n → ad = ⟨g, 1, none⟩) := by
  by_cases hc1 : c = 1
  · subst hc1
    exact ⟨⟨g, 0, none⟩, fun w => by
      have h1 : (1 : Int) ≤ (n : Int) + 1 := by omega
      have h2 : ¬ ((n : Int) + 1 < 1) := by omega
      simp [Instr.slice, run_underlying ht, Instr.sliceBounds, Instr.sliceBound, asIntOf, Result.andThen, sizeOf, typeInfo, hi, h1, h2], fun h => by omega⟩
  · refine ⟨⟨g, 1, none⟩, fun w => ?_, fun _ => rfl⟩
    have h1 : (1 : Int) ≤ (n : Int) + 1 := by omega
    have h2 : (n : Int) + 1 ≤ (c : Int) := by omega
    have h3 : ¬ c - 1 = 0 := by omega
    have h4 : ¬ c ≤ 1 := by omega
    simp [Instr.slice, run_underlying ht, Instr.sliceBounds, Instr.sliceBound, asIntOf, Result.andThen, sizeOf, typeInfo, hi, hc1, hsize, Addr.add, h1, h2, h3, h4]
section
variable {S : Nat → Prop} {w0 : World}
set_option maxRecDepth 100000 in
set_option maxHeartbeats 4000000 in
theorem Read_c {s : ByteArray} (hs : Sm s) (w : World) :
    Calls Tryz.prog 11 #[.string s] w fun e w' => ∃ v, e = .returned (.tuple #[v, .bool (PlaceI s).2]) ∧ Mod (fun _ => False) w w' ∧ plV (fun b => w.heap.size ≤ b) w' v (PlaceI s).1 := by
  have hss : s.size ≤ 1048576 := hs
  obtain ⟨i0, hi, hz0, hz1, hz2⟩ := info_parts info_9
  have HPA : Hd (partsB s = _) := ⟨parts_cons s⟩
  have HPS : Hd _ := ⟨parts_small s hs⟩
  have HPL : Hd _ := ⟨rest_len s hs⟩
  have HPI : Hd (PlaceI s = if placeI ⟨headB s, restB s⟩ = true then (⟨headB s, restB s⟩, true) else (emptyPl, false)) := ⟨rfl⟩
  rw [HPI.out]
  obtain ⟨p0, hp0⟩ : ∃ p, headB s = p := ⟨_, rfl⟩
  obtain ⟨r, hr⟩ : ∃ p, restB s = p := ⟨_, rfl⟩
  rw [hp0, hr] at HPA HPI HPS ⊢
  rw [hr] at HPL
  clear hp0 hr hs HPI
  obtain ⟨q, hq⟩ : ∃ q, placeI ⟨p0, r⟩ = q := ⟨_, rfl⟩
  rw [hq]
  have HQ : Hd _ := ⟨hq⟩
  clear hq
  go_enter Tryz.func11, Tryz.ntmps11
  go_wp2_with fail
  go_loopg [4, 5, 6] (s.size + 1) (fun gk v4 v5 v6 wr => Hd (Mod (fun _ => False) (w.alloc (.cells #[.string { data := #[] }, .slice none 0 0] 24)) wr) ∧ ∃ (i fr : Nat) (P : List ByteArray), v6 = .int .i64 i ∧ v5 = .int .i64 fr ∧ i + gk = s.size + 1 ∧ fr ≤ i ∧ P.length ≤ i ∧ Hd (ReadInv s fr i P) ∧ Hd (wr.ownsRow (w.heap.size + 1) 9 1 v4 P.length (P.map Value.string)))
  case atStart => exact ⟨⟨Mod.alloc _ _ _⟩, 0, 0, [], rfl, rfl, by omega, Nat.le_refl _, Nat.le_refl _, ⟨ReadInv.start s⟩, ⟨by have h := World.ownsRow_made (base := w.heap.size + 1) (e := 9) (size := 1) (w.alloc (.cells #[.string { data := #[] }, .slice none 0 0] 24)) #[] 0 (by simp) (by unfold maxLen; omega) rfl; rw [World.size_alloc] at h; exact h⟩⟩
  case round =>
    obtain ⟨HM, i, fr, P, rfl, rfl, hk, hf, hP, HI, HO⟩ := hrel
    by_cases hlt : i < s.size
    · obtain ⟨c, hc⟩ : ∃ c : UInt8, s[i] = c := ⟨_, rfl⟩
      have HC : Hd _ := ⟨hc⟩
      have HL : Hd _ := ⟨hlt⟩
      have hle : (i : Int) ≤ s.size := by omega
      have hne : ((i : Int) == (s.size : Int)) = false := by rw [beq_eq_false_iff_ne]; omega
      by_cases h46 : c.toNat = 46
      · have h46' : ((c.toNat : Int) == 46) = true := by rw [h46]; rfl
        have HE : Hd (c = 46) := ⟨UInt8.toNat_inj.1 h46⟩
        go_wp2_with (at_builtin; refine wpList_append_any _ rfl _ _ 22 rfl (w.heap.size + 1) 9 i0 (.string { data := #[] }) 1 16 Tryz.underlying22 hi hz0 hz1 hz2 (by simp [Value.cells]) (by decide) _ P.length (P.map Value.string) rfl (HO.out.alloc _) (some ⟨wr.heap.size, 0, none⟩) 1 1 [.string (s.extract fr i)] rfl rfl (fun h => by cases h) ?q2 ?q3 ?q4 ?q5 ?q6 ?_)
        case q2 =>
          intro a ha j u hj
          obtain rfl := Option.some.inj ha
          cases j with
          | zero => simp at hj; subst hj; show World.cell? _ ⟨wr.heap.size, 0, none⟩ = _; simp only [World.cell?, heap_alloc_new]; rfl
          | succ j => simp at hj
        case q3 => intro u hu; simp at hu; subst hu; rfl
        case q4 => unfold maxLen; omega
        case q5 => omega
        case q6 => have := HM.out.size; simp at this ⊢; omega
        intro v' w1 hown hgrow hnil
        have HM1 : Hd (Mod (fun _ => False) (w.alloc (.cells #[.string { data := #[] }, .slice none 0 0] 24)) w1) := ⟨Mod.of_grown (HM.out.trans (Mod.alloc _ _ _) (fun _ h => Or.inl h)) hgrow (fun k hk => by have := (HO.out.lt k hk).1; simp; omega)⟩
        have HO1 : Hd (w1.ownsRow (w.heap.size + 1) 9 1 v' (P ++ [s.extract fr i]).length ((P ++ [s.extract fr i]).map Value.string)) := ⟨by rw [List.length_append, List.map_append]; exact hown⟩
        have HI1 : Hd (ReadInv s (i + 1) (i + 1) (P ++ [s.extract fr i])) := ⟨HI.out.dot HL.out (by rw [HC.out, HE.out])⟩
        have hP1 : (P ++ [s.extract fr i]).length ≤ i + 1 := by simp; omega
        obtain ⟨P', hP'⟩ : ∃ P', P ++ [s.extract fr i] = P' := ⟨_, rfl⟩
        rw [hP'] at HO1 HI1 hP1
        clear hown hgrow hnil HO HM HI hP'
        go_wp2_with fail
        go_roundg (gk - 1)
        case measure => omega
        case rel => exact ⟨HM1, i + 1, i + 1, P', by go_num, by go_num, by omega, Nat.le_refl _, hP1, HI1, HO1⟩
      · have h46' : ((c.toNat : Int) == 46) = false := by rw [beq_eq_false_iff_ne]; omega
        have HE : Hd (c ≠ 46) := ⟨fun e => h46 (by rw [e]; rfl)⟩
        have HI1 : Hd (ReadInv s fr (i + 1) P) := ⟨HI.out.step hlt hf (by rw [hc]; exact HE.out)⟩
        go_wp2_with fail
        go_roundg (gk - 1)
        case measure => omega
        case rel => exact ⟨HM, i + 1, fr, P, by go_num, rfl, by omega, by omega, by omega, HI1, HO⟩
    · by_cases hie : i = s.size
      · subst hie
        go_wp2_with (at_builtin; refine wpList_append_any _ rfl _ _ 22 rfl (w.heap.size + 1) 9 i0 (.string { data := #[] }) 1 16 Tryz.underlying22 hi hz0 hz1 hz2 (by simp [Value.cells]) (by decide) _ P.length (P.map Value.string) rfl (HO.out.alloc _) (some ⟨wr.heap.size, 0, none⟩) 1 1 [.string (s.extract fr s.size)] rfl rfl (fun h => by cases h) ?q2 ?q3 ?q4 ?q5 ?q6 ?_)
        case q2 =>
          intro a ha j u hj
          obtain rfl := Option.some.inj ha
          cases j with
          | zero => simp at hj; subst hj; show World.cell? _ ⟨wr.heap.size, 0, none⟩ = _; simp only [World.cell?, heap_alloc_new]; rfl
          | succ j => simp at hj
        case q3 => intro u hu; simp at hu; subst hu; rfl
        case q4 => unfold maxLen; omega
        case q5 => omega
        case q6 => have := HM.out.size; simp at this ⊢; omega
        intro v' w1 hown hgrow hnil
        have HM1 : Hd (Mod (fun _ => False) (w.alloc (.cells #[.string { data := #[] }, .slice none 0 0] 24)) w1) := ⟨Mod.of_grown (HM.out.trans (Mod.alloc _ _ _) (fun _ h => Or.inl h)) hgrow (fun k hk => by have := (HO.out.lt k hk).1; simp; omega)⟩
        have HO1 : Hd (w1.ownsRow (w.heap.size + 1) 9 1 v' (P ++ [s.extract fr s.size]).length ((P ++ [s.extract fr s.size]).map Value.string)) := ⟨by rw [List.length_append, List.map_append]; exact hown⟩
        have HI1 : Hd (ReadInv s (s.size + 1) (s.size + 1) (P ++ [s.extract fr s.size])) := ⟨HI.out.last rfl⟩
        have hP1 : (P ++ [s.extract fr s.size]).length ≤ s.size + 1 := by simp; omega
        obtain ⟨P', hP'⟩ : ∃ P', P ++ [s.extract fr s.size] = P' := ⟨_, rfl⟩
        rw [hP'] at HO1 HI1 hP1
        clear hown hgrow hnil HO HM HI hP'
        go_wp2_with fail
        go_roundg (gk - 1)
        case measure => omega
        case rel => exact ⟨HM1, s.size + 1, s.size + 1, P', by go_num, by go_num, by omega, Nat.le_refl _, hP1, HI1, HO1⟩
      · have hle : ¬ ((i : Int) ≤ s.size) := by omega
        have hPe : P = p0 :: r := (parts_are (HI.out.2 (by omega))).trans HPA.out
        subst hPe
        obtain ⟨_, ⟨_, h0⟩ | ⟨g, c, cur, rfl, hg1, hg2, hg3, hg4, hg5, hg6⟩⟩ := HO.out
        · simp at h0
        rw [List.length_cons] at hg3
        obtain ⟨ad, hsl, had⟩ := run_slice_1c 22 9 i0 Tryz.underlying22 hi hz1 g r.length c hg3
        have HAD : Hd _ := ⟨had⟩
        have HG2 : Hd _ := ⟨hg2⟩
        have HG6 : Hd _ := ⟨hg6⟩
        have HG1 : Hd (w.heap.size < g) := ⟨hg1⟩
        have HG4 : Hd _ := ⟨hg4⟩
        have HG3 : Hd _ := ⟨hg3⟩
        have hcg : wr.cell? ⟨g, 0, none⟩ = some (.string p0) := by
          have := congrArg (fun l => l[0]?) hg6
          simp at this
          simp [World.cell?, hg2, this]
        have e0 : ∀ O, (wr.alloc O).drew.cell? ⟨g, 0, none⟩ = some (.string p0) := fun O => Lib.cell?_alloc_some O hcg
        have e1 : wr.drew.cell? ⟨g, 0, none⟩ = some (.string p0) := hcg
        clear had hg1 hg2 hg4 hg5 hg6 HO hi hz0 hz1 hz2 HI
        go_wp2_with fail
        go_region
        have HMW : Hd (Mod (fun _ => False) w wr) := ⟨(Mod.alloc _ _ _).trans HM.out (fun _ h => Or.inl h)⟩
        have HR0 : Hd (wr.heap[w.heap.size]? = some (.cells #[.string { data := #[] }, .slice none 0 0] 24)) := ⟨(HM.out.block _ (lt1_0 _ _) (fun h => h)).trans (heap_new' _ _)⟩
        have HV : Hd (∀ W, Mod (fun _ => False) wr W → plV (fun b => w.heap.size < b) W (.agg #[.string p0, .slice (some ad) r.length (c - 1)]) ⟨p0, r⟩) := ⟨fun W hW => ⟨HPS.out.1, some ad, r.length, c - 1, rfl, ⟨rfl, HPL.out, by show r.length ≤ c - 1; have := HG3.out; omega, by have := HG4.out; omega, fun j x hj => by
          have hjl : j < r.length := (List.getElem?_eq_some_iff.1 hj).1
          refine ⟨g, 1, .string x, by rw [HAD.out (by omega)], HG1.out, Nat.lt_of_lt_of_le (Array.getElem?_eq_some_iff.1 HG2.out).1 hW.size, fun k u hu => ?_, rfl, HPS.out.2 x (List.mem_of_getElem? hj)⟩
          have hk : k = 0 := by
            have := (Array.getElem?_eq_some_iff.1 hu).1
            simp [Value.cells] at this
            omega
          subst hk
          have hu' : u = .string x := by simpa [Value.cells] using hu.symm
          subst hu'
          have hb := (hW.block g (Array.getElem?_eq_some_iff.1 HG2.out).1 (fun h => h)).trans HG2.out
          have h6 := congrArg (fun l => l[j + 1]?) HG6.out
          simp only [List.map_cons, List.getElem?_cons_succ, List.getElem?_map, hj, Option.map_some, Nat.mul_one] at h6
          rw [List.getElem?_take, if_pos (by simp only [List.length_cons, Nat.mul_one]; omega)] at h6
          simp only [World.cell?, hb]
          simpa [Nat.add_comm 1 j] using h6⟩⟩⟩
        clear e0 e1 hcg hsl
        obtain ⟨w2, hw2⟩ : ∃ w2, (wr.alloc (.cells #[.string p0, .slice (some ad) r.length (c - 1)] 24)).drew = w2 := ⟨_, rfl⟩
        have HM2 : Hd (Mod (fun _ => False) wr w2) := ⟨by rw [← hw2]; exact (Mod.alloc _ _ _).trans (Mod.drew _ _) (fun _ h => Or.inl h)⟩
        have HB : Hd (w2.heap[wr.heap.size]? = some (.cells #[.string p0, .slice (some ad) r.length (c - 1)] 24)) := ⟨by rw [← hw2]; exact heap_new' wr _⟩
        rw [hw2]
        clear hw2
        obtain ⟨bx, hbx⟩ : ∃ bx, wr.heap.size = bx := ⟨_, rfl⟩
        have HBX : Hd _ := ⟨hbx⟩
        rw [hbx] at HB ⊢
        clear hbx
        have HVA : Hd _ := ⟨rPlace_ans (HV.out w2 HM2.out) w2 (Mod.refl _ _)⟩
        rw [HQ.out] at HVA
        have hb := HB.out
        have b0 : w2.cell? ⟨bx, 0, none⟩ = some (.string p0) := by simp [World.cell?, hb]
        have b1 : w2.cell? ⟨bx, 1, none⟩ = some (.slice (some ad) r.length (c - 1)) := by simp [World.cell?, hb]
        clear hb
        go_wp2_with fail
        refine HVA.out.mono ?_
        rintro e w3 ⟨rfl, hM3⟩
        have hb := (hM3.block _ (Array.getElem?_eq_some_iff.1 HB.out).1 (fun h => h)).trans HB.out
        have hR := ((HM2.out.trans hM3 (fun _ h => Or.inl h)).block _ (Array.getElem?_eq_some_iff.1 HR0.out).1 (fun h => h)).trans HR0.out
        have HM3 : Hd (Mod (fun _ => False) wr w3) := ⟨HM2.out.trans hM3 (fun _ h => Or.inl h)⟩
        have HR3 : Hd _ := ⟨hR⟩
        have b0' : w3.cell? ⟨bx, 0, none⟩ = some (.string p0) := by simp [World.cell?, hb]
        have b1' : w3.cell? ⟨bx, 1, none⟩ = some (.slice (some ad) r.length (c - 1)) := by simp [World.cell?, hb]
        have r0 : w3.cell? ⟨w.heap.size, 0, none⟩ = some (.string { data := #[] }) := by simp [World.cell?, hR]
        have r1 : ∀ v, (w3.setCell ⟨w.heap.size, 0, none⟩ v).cell? ⟨w.heap.size, 1, none⟩ = some (.slice none 0 0) := fun v => by rw [World.cell?_setCell_other _ _ _ _ (by simp)]; simp [World.cell?, hR]
        have rf : ∀ j, w3.frozen? ⟨w.heap.size, j, none⟩ = false := fun j => by simp [World.frozen?, hR]
        clear hb hR hM3 b0 b1
        cases q with
        | true =>
          go_wp2
          have hb1 := heap_setCells_all [.string p0, .slice (some ad) r.length (c - 1)] HR3.out rfl
          refine bodyPost_ret (v := .tuple #[.agg #[.string p0, .slice (some ad) r.length (c - 1)], .bool true]) (results_cell_row2 (fn := Tryz.f11) (p := 2) (q := 3) rfl _ _ w.heap.size 24 #[.string p0, .slice (some ad) r.length (c - 1)] (0, 0) _ rfl hb1 Tryz.underlying24 rfl (by kernel_rfl)) rfl ?_
          exact ⟨_, rfl, (Mod.setNew (Mod.setNew (HMW.out.trans HM3.out (fun _ h => Or.inl h)) ⟨w.heap.size, 0, none⟩ (.string p0) (by simp)) ⟨w.heap.size, 1, none⟩ (.slice (some ad) r.length (c - 1)) (by simp)), (HV.out w3 HM3.out).keep (fun b hb hl => ⟨Nat.le_of_lt hb, by simpa using hl, heap_setCell_far _ (heap_setCell_far _ rfl (by omega)) (by omega)⟩)⟩
        | false =>
          go_wp2
          have hb1 := heap_setCells_all [.string { data := #[] }, .slice none 0 0] HR3.out rfl
          refine bodyPost_ret (v := .tuple #[.agg #[.string { data := #[] }, .slice none 0 0], .bool false]) (results_cell_row2 (fn := Tryz.f11) (p := 2) (q := 3) rfl _ _ w.heap.size 24 #[.string { data := #[] }, .slice none 0 0] (0, 0) _ rfl hb1 Tryz.underlying24 rfl (by kernel_rfl)) rfl ?_
          exact ⟨_, rfl, (Mod.setNew (Mod.setNew (HMW.out.trans HM3.out (fun _ h => Or.inl h)) ⟨w.heap.size, 0, none⟩ (.string { data := #[] }) (by simp)) ⟨w.heap.size, 1, none⟩ (.slice none 0 0) (by simp)), empty_pl _ _⟩
end
end Go.Proofs.YtpodeccpibnlbaaGreatDoor
