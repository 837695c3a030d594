/- IndexFunc, ContainsFunc, all, at: str, vr, pl IndexFunc, ContainsFunc, all, at: arm, sct, enm -/
import Derived.Test.YtpodeccpibnlbaaGreatDoorG04
namespace Go.Proofs.YtpodeccpibnlbaaGreatDoor
set_option linter.unusedVariables false
set_option linter.unusedSimpArgs false
open Go.RowKit
section
variable {S : Nat → Prop} {w0 wV : World} {oa : Option Addr} {len cap : Nat}

set_option maxRecDepth 100000 in
set_option maxHeartbeats 1000000 in
theorem index_str {l : List ByteArray} (h : SR S w0 1 (strV) oa len cap l) (f : ByteArray → Bool) (M : Nat) (hM : Fn M) (c : Value) (hf : ∀ v x, strV v x → x ∈ l → Ans M #[v, c] w0 (.bool (f x))) :
    Ans 163 #[.slice oa len cap, .func (.func M) #[] #[c]] w0 (.int .i64 (idxI f l)) := by
  intro w hw
  unfold Fn at hM
  have HF : Hd _ := ⟨hf⟩
  have HS : Hd _ := ⟨h⟩
  have HW : Hd _ := ⟨hw⟩
  have hbig := h.hbig
  have hlen := h.hlen
  subst hlen
  clear hf h hw
  obtain ⟨r, hr⟩ : ∃ r, idxI f l = r := ⟨_, rfl⟩
  have HR : Hd _ := ⟨hr⟩
  rw [hr]
  clear hr
  go_enter Tryz.func163, Tryz.ntmps163
  go_wp2_with fail
  go_loopg [8] l.length (fun gk v8 wr => Hd (Mod (fun _ => False) w wr) ∧ ∃ k : Nat, v8 = .int .i64 k ∧ k + gk = l.length ∧ Hd (shf k (idxI f (l.drop k)) = r))
  case atStart => exact ⟨⟨Mod.refl _ _⟩, 0, rfl, by omega, ⟨by rw [← HR.out]; exact shf_0 f l⟩⟩
  case round =>
    obtain ⟨HM, k, rfl, hk, HI⟩ := hrel
    by_cases hlt : k < l.length
    · have hx0 : l[k]? = some l[k] := List.getElem?_eq_getElem (by omega)
      obtain ⟨x, hx⟩ : ∃ x, l[k]? = some x := ⟨_, hx0⟩
      obtain ⟨b, o, rfl, _, hb, e0, hv⟩ := HS.out.str hx
      have hmm := HW.out.trans HM.out (fun _ h => Or.inl h)
      have d0 : wr.cell? ⟨b, o + k, none⟩ = some (.string x) := by rw [← e0]; exact World.cell?_of_block (hmm.block b hb (fun h => h))
      have HC : Hd _ := ⟨HF.out _ x hv (List.mem_of_getElem? hx) wr hmm⟩
      have HX : Hd _ := ⟨hx⟩
      clear hx0 hx hmm e0 hv hb
      go_wp2_with fail
      refine HC.out.mono ?_
      rintro e w2 ⟨rfl, hM2⟩
      have HM2 : Hd (Mod (fun _ => False) w w2) := ⟨HM.out.trans hM2 (fun _ h => Or.inl h)⟩
      clear hM2
      obtain ⟨q, hq⟩ : ∃ q, f x = q := ⟨_, rfl⟩
      rw [hq]
      have HQ : Hd _ := ⟨hq⟩
      clear hq
      cases q with
      | true =>
        go_wp2
        go_ret
        exact ⟨by rw [← HI.out, shf_hit HX.out HQ.out]; rfl, HM2.out⟩
      | false =>
        have HI2 : Hd (shf (k + 1) (idxI f (l.drop (k + 1))) = r) := ⟨by rw [← HI.out, shf_miss HX.out HQ.out]⟩
        go_wp2_with fail
        go_roundg (gk - 1)
        case measure => omega
        case rel => exact ⟨HM2, k + 1, by go_num, by omega, HI2⟩
    · have HI2 : Hd (r = -1) := ⟨by rw [← HI.out]; exact shf_end (by omega)⟩
      go_wp2
      go_ret
      exact ⟨by rw [HI2.out]; rfl, HM.out⟩

set_option maxRecDepth 100000 in
theorem contains_str {l : List ByteArray} (h : SR S w0 1 (strV) oa len cap l) (f : ByteArray → Bool) (M : Nat) (hM : Fn M) (c : Value) (hf : ∀ v x, strV v x → x ∈ l → Ans M #[v, c] w0 (.bool (f x))) :
    Ans 131 #[.slice oa len cap, .func (.func M) #[] #[c]] w0 (.bool (l.any f)) := by
  intro w hw
  have HC : Hd _ := ⟨index_str h f M hM c hf w hw⟩
  have HA : Hd _ := ⟨any_idx f l⟩
  obtain ⟨r, hr⟩ : ∃ r, idxI f l = r := ⟨_, rfl⟩
  rw [hr] at HC HA
  clear hr hf h hw hM
  go_enter Tryz.func131, Tryz.ntmps131
  go_wp2_with fail
  refine HC.out.mono ?_
  rintro e w2 ⟨rfl, hM2⟩
  have HM2 : Hd _ := ⟨hM2⟩
  clear hM2
  go_wp2
  go_ret
  exact ⟨by rw [HA.out]; rfl, HM2.out⟩

set_option maxRecDepth 100000 in
set_option maxHeartbeats 1000000 in
theorem allc_str {v : Value} {x : ByteArray} (hv : strV v x) (q : Bool) (N : Nat) (hN : Fn N) (pb : Nat) (hp : w0.cell? ⟨pb, 0, none⟩ = some (.func (.func N) #[] #[])) (hpb : pb < w0.heap.size) (hq : Ans N #[v] w0 (.bool q)) :
    Ans 132 #[v, .pointer (some ⟨pb, 0, none⟩)] w0 (.bool (!q)) := by
  intro w hw
  have hp2 : w.cell? ⟨pb, 0, none⟩ = some (.func (.func N) #[] #[]) := by rw [← hp]; exact World.cell?_of_block (hw.block pb hpb (fun h => h))
  have hl := Nat.lt_of_lt_of_le hpb hw.size
  have HQ : Hd (∀ w', Mod (fun _ => False) w w' → _) := ⟨fun w' h' => hq w' (hw.trans h' (fun _ h => Or.inl h))⟩
  obtain ⟨rfl, k0⟩ := hv
  unfold Fn at hN
  clear hp hpb hq hw
  go_enter Tryz.func132, Tryz.ntmps132
  go_wp2_with fail
  refine (HQ.out _ ?_).mono ?_
  · first | exact Mod.refl _ _ | exact Mod.alloc _ _ _
  rintro e w2 ⟨rfl, hM2⟩
  have HM2 : Hd (Mod (fun _ => False) w w2) := ⟨by first | exact hM2 | exact (Mod.alloc _ _ _).trans hM2 (fun _ h => Or.inl h)⟩
  clear hM2
  cases q <;>
  · go_wp2
    go_ret
    exact ⟨rfl, HM2.out⟩

theorem fn_132 : Fn 132 := fn_of Tryz.func132 (by decide +kernel) (by kernel_rfl)
set_option maxRecDepth 100000 in
set_option maxHeartbeats 1000000 in
theorem all_str {l : List ByteArray} (h : SR S w0 1 (strV) oa len cap l) (f : ByteArray → Bool) (N : Nat) (hN : Fn N) (hf : ∀ v x, strV v x → x ∈ l → Ans N #[v] w0 (.bool (f x))) :
    Ans 86 #[.slice oa len cap, .func (.func N) #[] #[]] w0 (.bool (l.all f)) := by
  intro w hw
  have hlen := h.hlen
  have HC : Hd (∀ t, _) := ⟨fun t => by
    have hw2 : Mod (fun _ => False) w0 (w.alloc (.cells #[.func (.func N) #[] #[]] t)) := hw.trans (Mod.alloc _ _ _) (fun _ h => Or.inl h)
    have hwl : w.heap.size < (w.alloc (.cells #[.func (.func N) #[] #[]] t)).heap.size := by simp
    have hpc : (w.alloc (.cells #[.func (.func N) #[] #[]] t)).cell? ⟨w.heap.size, 0, none⟩ = some (.func (.func N) #[] #[]) := World.cell?_alloc_new w _ t 0
    exact contains_str (h.keep (hw2.kp S) (fun _ _ h => h)) (fun x => !f x) 132 fn_132 (.pointer (some ⟨w.heap.size, 0, none⟩))
      (fun v x hv hx => allc_str hv (f x) N hN w.heap.size hpc hwl (fun w' hw' => hf v x hv hx w' (hw2.trans hw' (fun _ h => Or.inl h)))) _ (Mod.refl _ _)⟩
  have HA : Hd _ := ⟨all_any f l⟩
  obtain ⟨r, hr⟩ : ∃ r, l.any (fun x => !f x) = r := ⟨_, rfl⟩
  rw [hr] at HC HA
  clear hr hf h hw hN hlen
  go_enter Tryz.func86, Tryz.ntmps86
  go_wp2_with fail
  refine (HC.out _).mono ?_
  rintro e w2 ⟨rfl, hM2⟩
  have HM2 : Hd (Mod (fun _ => False) w w2) := ⟨(Mod.alloc _ _ _).trans hM2 (fun _ h => Or.inl h)⟩
  clear hM2
  go_wp2
  go_ret
  exact ⟨by rw [← HA.out]; rfl, HM2.out⟩

set_option maxRecDepth 100000 in
set_option maxHeartbeats 1000000 in
theorem index_vr {l : List Vr} (h : SR S w0 2 (vrV) oa len cap l) (f : Vr → Bool) (M : Nat) (hM : Fn M) (c : Value) (hf : ∀ v x, vrV v x → x ∈ l → Ans M #[v, c] w0 (.bool (f x))) :
    Ans 80 #[.slice oa len cap, .func (.func M) #[] #[c]] w0 (.int .i64 (idxI f l)) := by
  intro w hw
  unfold Fn at hM
  have HF : Hd _ := ⟨hf⟩
  have HS : Hd _ := ⟨h⟩
  have HW : Hd _ := ⟨hw⟩
  have hbig := h.hbig
  have hlen := h.hlen
  subst hlen
  clear hf h hw
  obtain ⟨r, hr⟩ : ∃ r, idxI f l = r := ⟨_, rfl⟩
  have HR : Hd _ := ⟨hr⟩
  rw [hr]
  clear hr
  go_enter Tryz.func80, Tryz.ntmps80
  go_wp2_with fail
  go_loopg [8] l.length (fun gk v8 wr => Hd (Mod (fun _ => False) w wr) ∧ ∃ k : Nat, v8 = .int .i64 k ∧ k + gk = l.length ∧ Hd (shf k (idxI f (l.drop k)) = r))
  case atStart => exact ⟨⟨Mod.refl _ _⟩, 0, rfl, by omega, ⟨by rw [← HR.out]; exact shf_0 f l⟩⟩
  case round =>
    obtain ⟨HM, k, rfl, hk, HI⟩ := hrel
    by_cases hlt : k < l.length
    · have hx0 : l[k]? = some l[k] := List.getElem?_eq_getElem (by omega)
      obtain ⟨x, hx⟩ : ∃ x, l[k]? = some x := ⟨_, hx0⟩
      obtain ⟨b, o, rfl, _, hb, e0, e1, hv⟩ := HS.out.vr hx
      have hmm := HW.out.trans HM.out (fun _ h => Or.inl h)
      have d0 : wr.cell? ⟨b, o + k * 2, none⟩ = some (.string x.name) := by rw [← e0]; exact World.cell?_of_block (hmm.block b hb (fun h => h))
      have d1 : wr.cell? ⟨b, o + k * 2 + 1, none⟩ = some (.string x.type) := by rw [← e1]; exact World.cell?_of_block (hmm.block b hb (fun h => h))
      have HC : Hd _ := ⟨HF.out _ x hv (List.mem_of_getElem? hx) wr hmm⟩
      have HX : Hd _ := ⟨hx⟩
      clear hx0 hx hmm e0 e1 hv hb
      go_wp2_with fail
      refine HC.out.mono ?_
      rintro e w2 ⟨rfl, hM2⟩
      have HM2 : Hd (Mod (fun _ => False) w w2) := ⟨HM.out.trans hM2 (fun _ h => Or.inl h)⟩
      clear hM2
      obtain ⟨q, hq⟩ : ∃ q, f x = q := ⟨_, rfl⟩
      rw [hq]
      have HQ : Hd _ := ⟨hq⟩
      clear hq
      cases q with
      | true =>
        go_wp2
        go_ret
        exact ⟨by rw [← HI.out, shf_hit HX.out HQ.out]; rfl, HM2.out⟩
      | false =>
        have HI2 : Hd (shf (k + 1) (idxI f (l.drop (k + 1))) = r) := ⟨by rw [← HI.out, shf_miss HX.out HQ.out]⟩
        go_wp2_with fail
        go_roundg (gk - 1)
        case measure => omega
        case rel => exact ⟨HM2, k + 1, by go_num, by omega, HI2⟩
    · have HI2 : Hd (r = -1) := ⟨by rw [← HI.out]; exact shf_end (by omega)⟩
      go_wp2
      go_ret
      exact ⟨by rw [HI2.out]; rfl, HM.out⟩

set_option maxRecDepth 100000 in
theorem contains_vr {l : List Vr} (h : SR S w0 2 (vrV) oa len cap l) (f : Vr → Bool) (M : Nat) (hM : Fn M) (c : Value) (hf : ∀ v x, vrV v x → x ∈ l → Ans M #[v, c] w0 (.bool (f x))) :
    Ans 98 #[.slice oa len cap, .func (.func M) #[] #[c]] w0 (.bool (l.any f)) := by
  intro w hw
  have HC : Hd _ := ⟨index_vr h f M hM c hf w hw⟩
  have HA : Hd _ := ⟨any_idx f l⟩
  obtain ⟨r, hr⟩ : ∃ r, idxI f l = r := ⟨_, rfl⟩
  rw [hr] at HC HA
  clear hr hf h hw hM
  go_enter Tryz.func98, Tryz.ntmps98
  go_wp2_with fail
  refine HC.out.mono ?_
  rintro e w2 ⟨rfl, hM2⟩
  have HM2 : Hd _ := ⟨hM2⟩
  clear hM2
  go_wp2
  go_ret
  exact ⟨by rw [HA.out]; rfl, HM2.out⟩

set_option maxRecDepth 100000 in
set_option maxHeartbeats 1000000 in
theorem allc_vr {v : Value} {x : Vr} (hv : vrV v x) (q : Bool) (N : Nat) (hN : Fn N) (pb : Nat) (hp : w0.cell? ⟨pb, 0, none⟩ = some (.func (.func N) #[] #[])) (hpb : pb < w0.heap.size) (hq : Ans N #[v] w0 (.bool q)) :
    Ans 99 #[v, .pointer (some ⟨pb, 0, none⟩)] w0 (.bool (!q)) := by
  intro w hw
  have hp2 : w.cell? ⟨pb, 0, none⟩ = some (.func (.func N) #[] #[]) := by rw [← hp]; exact World.cell?_of_block (hw.block pb hpb (fun h => h))
  have hl := Nat.lt_of_lt_of_le hpb hw.size
  have HQ : Hd (∀ w', Mod (fun _ => False) w w' → _) := ⟨fun w' h' => hq w' (hw.trans h' (fun _ h => Or.inl h))⟩
  obtain ⟨rfl, k0⟩ := hv
  unfold Fn at hN
  clear hp hpb hq hw
  go_enter Tryz.func99, Tryz.ntmps99
  go_wp2_with fail
  refine (HQ.out _ ?_).mono ?_
  · first | exact Mod.refl _ _ | exact Mod.alloc _ _ _
  rintro e w2 ⟨rfl, hM2⟩
  have HM2 : Hd (Mod (fun _ => False) w w2) := ⟨by first | exact hM2 | exact (Mod.alloc _ _ _).trans hM2 (fun _ h => Or.inl h)⟩
  clear hM2
  cases q <;>
  · go_wp2
    go_ret
    exact ⟨rfl, HM2.out⟩

theorem fn_99 : Fn 99 := fn_of Tryz.func99 (by decide +kernel) (by kernel_rfl)
set_option maxRecDepth 100000 in
set_option maxHeartbeats 1000000 in
theorem all_vr {l : List Vr} (h : SR S w0 2 (vrV) oa len cap l) (f : Vr → Bool) (N : Nat) (hN : Fn N) (hf : ∀ v x, vrV v x → x ∈ l → Ans N #[v] w0 (.bool (f x))) :
    Ans 45 #[.slice oa len cap, .func (.func N) #[] #[]] w0 (.bool (l.all f)) := by
  intro w hw
  have hlen := h.hlen
  have HC : Hd (∀ t, _) := ⟨fun t => by
    have hw2 : Mod (fun _ => False) w0 (w.alloc (.cells #[.func (.func N) #[] #[]] t)) := hw.trans (Mod.alloc _ _ _) (fun _ h => Or.inl h)
    have hwl : w.heap.size < (w.alloc (.cells #[.func (.func N) #[] #[]] t)).heap.size := by simp
    have hpc : (w.alloc (.cells #[.func (.func N) #[] #[]] t)).cell? ⟨w.heap.size, 0, none⟩ = some (.func (.func N) #[] #[]) := World.cell?_alloc_new w _ t 0
    exact contains_vr (h.keep (hw2.kp S) (fun _ _ h => h)) (fun x => !f x) 99 fn_99 (.pointer (some ⟨w.heap.size, 0, none⟩))
      (fun v x hv hx => allc_vr hv (f x) N hN w.heap.size hpc hwl (fun w' hw' => hf v x hv hx w' (hw2.trans hw' (fun _ h => Or.inl h)))) _ (Mod.refl _ _)⟩
  have HA : Hd _ := ⟨all_any f l⟩
  obtain ⟨r, hr⟩ : ∃ r, l.any (fun x => !f x) = r := ⟨_, rfl⟩
  rw [hr] at HC HA
  clear hr hf h hw hN hlen
  go_enter Tryz.func45, Tryz.ntmps45
  go_wp2_with fail
  refine (HC.out _).mono ?_
  rintro e w2 ⟨rfl, hM2⟩
  have HM2 : Hd (Mod (fun _ => False) w w2) := ⟨(Mod.alloc _ _ _).trans hM2 (fun _ h => Or.inl h)⟩
  clear hM2
  go_wp2
  go_ret
  exact ⟨by rw [← HA.out]; rfl, HM2.out⟩

set_option maxRecDepth 100000 in
set_option maxHeartbeats 1000000 in
theorem index_pl {l : List Pl} (h : SR S w0 2 (plV S wV) oa len cap l) (f : Pl → Bool) (M : Nat) (hM : Fn M) (c : Value) (hf : ∀ v x, plV S wV v x → x ∈ l → Ans M #[v, c] w0 (.bool (f x))) :
    Ans 201 #[.slice oa len cap, .func (.func M) #[] #[c]] w0 (.int .i64 (idxI f l)) := by
  intro w hw
  unfold Fn at hM
  have HF : Hd _ := ⟨hf⟩
  have HS : Hd _ := ⟨h⟩
  have HW : Hd _ := ⟨hw⟩
  have hbig := h.hbig
  have hlen := h.hlen
  subst hlen
  clear hf h hw
  obtain ⟨r, hr⟩ : ∃ r, idxI f l = r := ⟨_, rfl⟩
  have HR : Hd _ := ⟨hr⟩
  rw [hr]
  clear hr
  go_enter Tryz.func201, Tryz.ntmps201
  go_wp2_with fail
  go_loopg [8] l.length (fun gk v8 wr => Hd (Mod (fun _ => False) w wr) ∧ ∃ k : Nat, v8 = .int .i64 k ∧ k + gk = l.length ∧ Hd (shf k (idxI f (l.drop k)) = r))
  case atStart => exact ⟨⟨Mod.refl _ _⟩, 0, rfl, by omega, ⟨by rw [← HR.out]; exact shf_0 f l⟩⟩
  case round =>
    obtain ⟨HM, k, rfl, hk, HI⟩ := hrel
    by_cases hlt : k < l.length
    · have hx0 : l[k]? = some l[k] := List.getElem?_eq_getElem (by omega)
      obtain ⟨x, hx⟩ : ∃ x, l[k]? = some x := ⟨_, hx0⟩
      obtain ⟨b, o, oa1, la1, ca1, rfl, _, hb, e0, e1, hv⟩ := HS.out.pl hx
      have hmm := HW.out.trans HM.out (fun _ h => Or.inl h)
      have d0 : wr.cell? ⟨b, o + k * 2, none⟩ = some (.string x.loc) := by rw [← e0]; exact World.cell?_of_block (hmm.block b hb (fun h => h))
      have d1 : wr.cell? ⟨b, o + k * 2 + 1, none⟩ = some (.slice oa1 la1 ca1) := by rw [← e1]; exact World.cell?_of_block (hmm.block b hb (fun h => h))
      have HC : Hd _ := ⟨HF.out _ x hv (List.mem_of_getElem? hx) wr hmm⟩
      have HX : Hd _ := ⟨hx⟩
      clear hx0 hx hmm e0 e1 hv hb
      go_wp2_with fail
      refine HC.out.mono ?_
      rintro e w2 ⟨rfl, hM2⟩
      have HM2 : Hd (Mod (fun _ => False) w w2) := ⟨HM.out.trans hM2 (fun _ h => Or.inl h)⟩
      clear hM2
      obtain ⟨q, hq⟩ : ∃ q, f x = q := ⟨_, rfl⟩
      rw [hq]
      have HQ : Hd _ := ⟨hq⟩
      clear hq
      cases q with
      | true =>
        go_wp2
        go_ret
        exact ⟨by rw [← HI.out, shf_hit HX.out HQ.out]; rfl, HM2.out⟩
      | false =>
        have HI2 : Hd (shf (k + 1) (idxI f (l.drop (k + 1))) = r) := ⟨by rw [← HI.out, shf_miss HX.out HQ.out]⟩
        go_wp2_with fail
        go_roundg (gk - 1)
        case measure => omega
        case rel => exact ⟨HM2, k + 1, by go_num, by omega, HI2⟩
    · have HI2 : Hd (r = -1) := ⟨by rw [← HI.out]; exact shf_end (by omega)⟩
      go_wp2
      go_ret
      exact ⟨by rw [HI2.out]; rfl, HM.out⟩

set_option maxRecDepth 100000 in
theorem contains_pl {l : List Pl} (h : SR S w0 2 (plV S wV) oa len cap l) (f : Pl → Bool) (M : Nat) (hM : Fn M) (c : Value) (hf : ∀ v x, plV S wV v x → x ∈ l → Ans M #[v, c] w0 (.bool (f x))) :
    Ans 196 #[.slice oa len cap, .func (.func M) #[] #[c]] w0 (.bool (l.any f)) := by
  intro w hw
  have HC : Hd _ := ⟨index_pl h f M hM c hf w hw⟩
  have HA : Hd _ := ⟨any_idx f l⟩
  obtain ⟨r, hr⟩ : ∃ r, idxI f l = r := ⟨_, rfl⟩
  rw [hr] at HC HA
  clear hr hf h hw hM
  go_enter Tryz.func196, Tryz.ntmps196
  go_wp2_with fail
  refine HC.out.mono ?_
  rintro e w2 ⟨rfl, hM2⟩
  have HM2 : Hd _ := ⟨hM2⟩
  clear hM2
  go_wp2
  go_ret
  exact ⟨by rw [HA.out]; rfl, HM2.out⟩

set_option maxRecDepth 100000 in
set_option maxHeartbeats 1000000 in
theorem allc_pl {v : Value} {x : Pl} (hv : plV S wV v x) (q : Bool) (N : Nat) (hN : Fn N) (pb : Nat) (hp : w0.cell? ⟨pb, 0, none⟩ = some (.func (.func N) #[] #[])) (hpb : pb < w0.heap.size) (hq : Ans N #[v] w0 (.bool q)) :
    Ans 197 #[v, .pointer (some ⟨pb, 0, none⟩)] w0 (.bool (!q)) := by
  intro w hw
  have hp2 : w.cell? ⟨pb, 0, none⟩ = some (.func (.func N) #[] #[]) := by rw [← hp]; exact World.cell?_of_block (hw.block pb hpb (fun h => h))
  have hl := Nat.lt_of_lt_of_le hpb hw.size
  have HQ : Hd (∀ w', Mod (fun _ => False) w w' → _) := ⟨fun w' h' => hq w' (hw.trans h' (fun _ h => Or.inl h))⟩
  obtain ⟨k0, oa1, la1, ca1, rfl, k1⟩ := hv
  unfold Fn at hN
  clear hp hpb hq hw
  go_enter Tryz.func197, Tryz.ntmps197
  go_wp2_with fail
  refine (HQ.out _ ?_).mono ?_
  · first | exact Mod.refl _ _ | exact Mod.alloc _ _ _
  rintro e w2 ⟨rfl, hM2⟩
  have HM2 : Hd (Mod (fun _ => False) w w2) := ⟨by first | exact hM2 | exact (Mod.alloc _ _ _).trans hM2 (fun _ h => Or.inl h)⟩
  clear hM2
  cases q <;>
  · go_wp2
    go_ret
    exact ⟨rfl, HM2.out⟩

theorem fn_197 : Fn 197 := fn_of Tryz.func197 (by decide +kernel) (by kernel_rfl)
set_option maxRecDepth 100000 in
set_option maxHeartbeats 1000000 in
theorem all_pl {l : List Pl} (h : SR S w0 2 (plV S wV) oa len cap l) (f : Pl → Bool) (N : Nat) (hN : Fn N) (hf : ∀ v x, plV S wV v x → x ∈ l → Ans N #[v] w0 (.bool (f x))) :
    Ans 189 #[.slice oa len cap, .func (.func N) #[] #[]] w0 (.bool (l.all f)) := by
  intro w hw
  have hlen := h.hlen
  have HC : Hd (∀ t, _) := ⟨fun t => by
    have hw2 : Mod (fun _ => False) w0 (w.alloc (.cells #[.func (.func N) #[] #[]] t)) := hw.trans (Mod.alloc _ _ _) (fun _ h => Or.inl h)
    have hwl : w.heap.size < (w.alloc (.cells #[.func (.func N) #[] #[]] t)).heap.size := by simp
    have hpc : (w.alloc (.cells #[.func (.func N) #[] #[]] t)).cell? ⟨w.heap.size, 0, none⟩ = some (.func (.func N) #[] #[]) := World.cell?_alloc_new w _ t 0
    exact contains_pl (h.keep (hw2.kp S) (fun _ _ h => h)) (fun x => !f x) 197 fn_197 (.pointer (some ⟨w.heap.size, 0, none⟩))
      (fun v x hv hx => allc_pl hv (f x) N hN w.heap.size hpc hwl (fun w' hw' => hf v x hv hx w' (hw2.trans hw' (fun _ h => Or.inl h)))) _ (Mod.refl _ _)⟩
  have HA : Hd _ := ⟨all_any f l⟩
  obtain ⟨r, hr⟩ : ∃ r, l.any (fun x => !f x) = r := ⟨_, rfl⟩
  rw [hr] at HC HA
  clear hr hf h hw hN hlen
  go_enter Tryz.func189, Tryz.ntmps189
  go_wp2_with fail
  refine (HC.out _).mono ?_
  rintro e w2 ⟨rfl, hM2⟩
  have HM2 : Hd (Mod (fun _ => False) w w2) := ⟨(Mod.alloc _ _ _).trans hM2 (fun _ h => Or.inl h)⟩
  clear hM2
  go_wp2
  go_ret
  exact ⟨by rw [← HA.out]; rfl, HM2.out⟩
end
end Go.Proofs.YtpodeccpibnlbaaGreatDoor
namespace Go.Proofs.YtpodeccpibnlbaaGreatDoor
set_option linter.unusedVariables false
set_option linter.unusedSimpArgs false
open Go.RowKit
section
variable {S : Nat → Prop} {w0 wV : World} {oa : Option Addr} {len cap : Nat}

set_option maxRecDepth 100000 in
set_option maxHeartbeats 1000000 in
theorem index_arm {l : List Arm} (h : SR S w0 3 (armV) oa len cap l) (f : Arm → Bool) (M : Nat) (hM : Fn M) (c : Value) (hf : ∀ v x, armV v x → x ∈ l → Ans M #[v, c] w0 (.bool (f x))) :
    Ans 198 #[.slice oa len cap, .func (.func M) #[] #[c]] w0 (.int .i64 (idxI f l)) := by
  intro w hw
  unfold Fn at hM
  have HF : Hd _ := ⟨hf⟩
  have HS : Hd _ := ⟨h⟩
  have HW : Hd _ := ⟨hw⟩
  have hbig := h.hbig
  have hlen := h.hlen
  subst hlen
  clear hf h hw
  obtain ⟨r, hr⟩ : ∃ r, idxI f l = r := ⟨_, rfl⟩
  have HR : Hd _ := ⟨hr⟩
  rw [hr]
  clear hr
  go_enter Tryz.func198, Tryz.ntmps198
  go_wp2_with fail
  go_loopg [8] l.length (fun gk v8 wr => Hd (Mod (fun _ => False) w wr) ∧ ∃ k : Nat, v8 = .int .i64 k ∧ k + gk = l.length ∧ Hd (shf k (idxI f (l.drop k)) = r))
  case atStart => exact ⟨⟨Mod.refl _ _⟩, 0, rfl, by omega, ⟨by rw [← HR.out]; exact shf_0 f l⟩⟩
  case round =>
    obtain ⟨HM, k, rfl, hk, HI⟩ := hrel
    by_cases hlt : k < l.length
    · have hx0 : l[k]? = some l[k] := List.getElem?_eq_getElem (by omega)
      obtain ⟨x, hx⟩ : ∃ x, l[k]? = some x := ⟨_, hx0⟩
      obtain ⟨b, o, rfl, _, hb, e0, e1, e2, hv⟩ := HS.out.arm hx
      have hmm := HW.out.trans HM.out (fun _ h => Or.inl h)
      have d0 : wr.cell? ⟨b, o + k * 3, none⟩ = some (.string x.variant) := by rw [← e0]; exact World.cell?_of_block (hmm.block b hb (fun h => h))
      have d1 : wr.cell? ⟨b, o + k * 3 + 1, none⟩ = some (.string x.loc) := by rw [← e1]; exact World.cell?_of_block (hmm.block b hb (fun h => h))
      have d2 : wr.cell? ⟨b, o + k * 3 + 2, none⟩ = some (.string x.block) := by rw [← e2]; exact World.cell?_of_block (hmm.block b hb (fun h => h))
      have HC : Hd _ := ⟨HF.out _ x hv (List.mem_of_getElem? hx) wr hmm⟩
      have HX : Hd _ := ⟨hx⟩
      clear hx0 hx hmm e0 e1 e2 hv hb
      go_wp2_with fail
      refine HC.out.mono ?_
      rintro e w2 ⟨rfl, hM2⟩
      have HM2 : Hd (Mod (fun _ => False) w w2) := ⟨HM.out.trans hM2 (fun _ h => Or.inl h)⟩
      clear hM2
      obtain ⟨q, hq⟩ : ∃ q, f x = q := ⟨_, rfl⟩
      rw [hq]
      have HQ : Hd _ := ⟨hq⟩
      clear hq
      cases q with
      | true =>
        go_wp2
        go_ret
        exact ⟨by rw [← HI.out, shf_hit HX.out HQ.out]; rfl, HM2.out⟩
      | false =>
        have HI2 : Hd (shf (k + 1) (idxI f (l.drop (k + 1))) = r) := ⟨by rw [← HI.out, shf_miss HX.out HQ.out]⟩
        go_wp2_with fail
        go_roundg (gk - 1)
        case measure => omega
        case rel => exact ⟨HM2, k + 1, by go_num, by omega, HI2⟩
    · have HI2 : Hd (r = -1) := ⟨by rw [← HI.out]; exact shf_end (by omega)⟩
      go_wp2
      go_ret
      exact ⟨by rw [HI2.out]; rfl, HM.out⟩

set_option maxRecDepth 100000 in
theorem contains_arm {l : List Arm} (h : SR S w0 3 (armV) oa len cap l) (f : Arm → Bool) (M : Nat) (hM : Fn M) (c : Value) (hf : ∀ v x, armV v x → x ∈ l → Ans M #[v, c] w0 (.bool (f x))) :
    Ans 190 #[.slice oa len cap, .func (.func M) #[] #[c]] w0 (.bool (l.any f)) := by
  intro w hw
  have HC : Hd _ := ⟨index_arm h f M hM c hf w hw⟩
  have HA : Hd _ := ⟨any_idx f l⟩
  obtain ⟨r, hr⟩ : ∃ r, idxI f l = r := ⟨_, rfl⟩
  rw [hr] at HC HA
  clear hr hf h hw hM
  go_enter Tryz.func190, Tryz.ntmps190
  go_wp2_with fail
  refine HC.out.mono ?_
  rintro e w2 ⟨rfl, hM2⟩
  have HM2 : Hd _ := ⟨hM2⟩
  clear hM2
  go_wp2
  go_ret
  exact ⟨by rw [HA.out]; rfl, HM2.out⟩

set_option maxRecDepth 100000 in
set_option maxHeartbeats 1000000 in
theorem allc_arm {v : Value} {x : Arm} (hv : armV v x) (q : Bool) (N : Nat) (hN : Fn N) (pb : Nat) (hp : w0.cell? ⟨pb, 0, none⟩ = some (.func (.func N) #[] #[])) (hpb : pb < w0.heap.size) (hq : Ans N #[v] w0 (.bool q)) :
    Ans 191 #[v, .pointer (some ⟨pb, 0, none⟩)] w0 (.bool (!q)) := by
  intro w hw
  have hp2 : w.cell? ⟨pb, 0, none⟩ = some (.func (.func N) #[] #[]) := by rw [← hp]; exact World.cell?_of_block (hw.block pb hpb (fun h => h))
  have hl := Nat.lt_of_lt_of_le hpb hw.size
  have HQ : Hd (∀ w', Mod (fun _ => False) w w' → _) := ⟨fun w' h' => hq w' (hw.trans h' (fun _ h => Or.inl h))⟩
  obtain ⟨rfl, k0⟩ := hv
  unfold Fn at hN
  clear hp hpb hq hw
  go_enter Tryz.func191, Tryz.ntmps191
  go_wp2_with fail
  refine (HQ.out _ ?_).mono ?_
  · first | exact Mod.refl _ _ | exact Mod.alloc _ _ _
  rintro e w2 ⟨rfl, hM2⟩
  have HM2 : Hd (Mod (fun _ => False) w w2) := ⟨by first | exact hM2 | exact (Mod.alloc _ _ _).trans hM2 (fun _ h => Or.inl h)⟩
  clear hM2
  cases q <;>
  · go_wp2
    go_ret
    exact ⟨rfl, HM2.out⟩

theorem fn_191 : Fn 191 := fn_of Tryz.func191 (by decide +kernel) (by kernel_rfl)
set_option maxRecDepth 100000 in
set_option maxHeartbeats 1000000 in
theorem all_arm {l : List Arm} (h : SR S w0 3 (armV) oa len cap l) (f : Arm → Bool) (N : Nat) (hN : Fn N) (hf : ∀ v x, armV v x → x ∈ l → Ans N #[v] w0 (.bool (f x))) :
    Ans 176 #[.slice oa len cap, .func (.func N) #[] #[]] w0 (.bool (l.all f)) := by
  intro w hw
  have hlen := h.hlen
  have HC : Hd (∀ t, _) := ⟨fun t => by
    have hw2 : Mod (fun _ => False) w0 (w.alloc (.cells #[.func (.func N) #[] #[]] t)) := hw.trans (Mod.alloc _ _ _) (fun _ h => Or.inl h)
    have hwl : w.heap.size < (w.alloc (.cells #[.func (.func N) #[] #[]] t)).heap.size := by simp
    have hpc : (w.alloc (.cells #[.func (.func N) #[] #[]] t)).cell? ⟨w.heap.size, 0, none⟩ = some (.func (.func N) #[] #[]) := World.cell?_alloc_new w _ t 0
    exact contains_arm (h.keep (hw2.kp S) (fun _ _ h => h)) (fun x => !f x) 191 fn_191 (.pointer (some ⟨w.heap.size, 0, none⟩))
      (fun v x hv hx => allc_arm hv (f x) N hN w.heap.size hpc hwl (fun w' hw' => hf v x hv hx w' (hw2.trans hw' (fun _ h => Or.inl h)))) _ (Mod.refl _ _)⟩
  have HA : Hd _ := ⟨all_any f l⟩
  obtain ⟨r, hr⟩ : ∃ r, l.any (fun x => !f x) = r := ⟨_, rfl⟩
  rw [hr] at HC HA
  clear hr hf h hw hN hlen
  go_enter Tryz.func176, Tryz.ntmps176
  go_wp2_with fail
  refine (HC.out _).mono ?_
  rintro e w2 ⟨rfl, hM2⟩
  have HM2 : Hd (Mod (fun _ => False) w w2) := ⟨(Mod.alloc _ _ _).trans hM2 (fun _ h => Or.inl h)⟩
  clear hM2
  go_wp2
  go_ret
  exact ⟨by rw [← HA.out]; rfl, HM2.out⟩

set_option maxRecDepth 100000 in
set_option maxHeartbeats 1000000 in
theorem index_sct {l : List Sct} (h : SR S w0 5 (sctV S wV) oa len cap l) (f : Sct → Bool) (M : Nat) (hM : Fn M) (c : Value) (hf : ∀ v x, sctV S wV v x → x ∈ l → Ans M #[v, c] w0 (.bool (f x))) :
    Ans 139 #[.slice oa len cap, .func (.func M) #[] #[c]] w0 (.int .i64 (idxI f l)) := by
  intro w hw
  unfold Fn at hM
  have HF : Hd _ := ⟨hf⟩
  have HS : Hd _ := ⟨h⟩
  have HW : Hd _ := ⟨hw⟩
  have hbig := h.hbig
  have hlen := h.hlen
  subst hlen
  clear hf h hw
  obtain ⟨r, hr⟩ : ∃ r, idxI f l = r := ⟨_, rfl⟩
  have HR : Hd _ := ⟨hr⟩
  rw [hr]
  clear hr
  go_enter Tryz.func139, Tryz.ntmps139
  go_wp2_with fail
  go_loopg [8] l.length (fun gk v8 wr => Hd (Mod (fun _ => False) w wr) ∧ ∃ k : Nat, v8 = .int .i64 k ∧ k + gk = l.length ∧ Hd (shf k (idxI f (l.drop k)) = r))
  case atStart => exact ⟨⟨Mod.refl _ _⟩, 0, rfl, by omega, ⟨by rw [← HR.out]; exact shf_0 f l⟩⟩
  case round =>
    obtain ⟨HM, k, rfl, hk, HI⟩ := hrel
    by_cases hlt : k < l.length
    · have hx0 : l[k]? = some l[k] := List.getElem?_eq_getElem (by omega)
      obtain ⟨x, hx⟩ : ∃ x, l[k]? = some x := ⟨_, hx0⟩
      obtain ⟨b, o, oa1, la1, ca1, rfl, _, hb, e0, e1, e2, e3, e4, hv⟩ := HS.out.sct hx
      have hmm := HW.out.trans HM.out (fun _ h => Or.inl h)
      have d0 : wr.cell? ⟨b, o + k * 5, none⟩ = some (.int .i64 x.pos) := by rw [← e0]; exact World.cell?_of_block (hmm.block b hb (fun h => h))
      have d1 : wr.cell? ⟨b, o + k * 5 + 1, none⟩ = some (.string x.name) := by rw [← e1]; exact World.cell?_of_block (hmm.block b hb (fun h => h))
      have d2 : wr.cell? ⟨b, o + k * 5 + 2, none⟩ = some (.bool x.safe) := by rw [← e2]; exact World.cell?_of_block (hmm.block b hb (fun h => h))
      have d3 : wr.cell? ⟨b, o + k * 5 + 3, none⟩ = some (.bool x.hook) := by rw [← e3]; exact World.cell?_of_block (hmm.block b hb (fun h => h))
      have d4 : wr.cell? ⟨b, o + k * 5 + 4, none⟩ = some (.slice oa1 la1 ca1) := by rw [← e4]; exact World.cell?_of_block (hmm.block b hb (fun h => h))
      have HC : Hd _ := ⟨HF.out _ x hv (List.mem_of_getElem? hx) wr hmm⟩
      have HX : Hd _ := ⟨hx⟩
      clear hx0 hx hmm e0 e1 e2 e3 e4 hv hb
      go_wp2_with fail
      refine HC.out.mono ?_
      rintro e w2 ⟨rfl, hM2⟩
      have HM2 : Hd (Mod (fun _ => False) w w2) := ⟨HM.out.trans hM2 (fun _ h => Or.inl h)⟩
      clear hM2
      obtain ⟨q, hq⟩ : ∃ q, f x = q := ⟨_, rfl⟩
      rw [hq]
      have HQ : Hd _ := ⟨hq⟩
      clear hq
      cases q with
      | true =>
        go_wp2
        go_ret
        exact ⟨by rw [← HI.out, shf_hit HX.out HQ.out]; rfl, HM2.out⟩
      | false =>
        have HI2 : Hd (shf (k + 1) (idxI f (l.drop (k + 1))) = r) := ⟨by rw [← HI.out, shf_miss HX.out HQ.out]⟩
        go_wp2_with fail
        go_roundg (gk - 1)
        case measure => omega
        case rel => exact ⟨HM2, k + 1, by go_num, by omega, HI2⟩
    · have HI2 : Hd (r = -1) := ⟨by rw [← HI.out]; exact shf_end (by omega)⟩
      go_wp2
      go_ret
      exact ⟨by rw [HI2.out]; rfl, HM.out⟩

set_option maxRecDepth 100000 in
theorem contains_sct {l : List Sct} (h : SR S w0 5 (sctV S wV) oa len cap l) (f : Sct → Bool) (M : Nat) (hM : Fn M) (c : Value) (hf : ∀ v x, sctV S wV v x → x ∈ l → Ans M #[v, c] w0 (.bool (f x))) :
    Ans 92 #[.slice oa len cap, .func (.func M) #[] #[c]] w0 (.bool (l.any f)) := by
  intro w hw
  have HC : Hd _ := ⟨index_sct h f M hM c hf w hw⟩
  have HA : Hd _ := ⟨any_idx f l⟩
  obtain ⟨r, hr⟩ : ∃ r, idxI f l = r := ⟨_, rfl⟩
  rw [hr] at HC HA
  clear hr hf h hw hM
  go_enter Tryz.func92, Tryz.ntmps92
  go_wp2_with fail
  refine HC.out.mono ?_
  rintro e w2 ⟨rfl, hM2⟩
  have HM2 : Hd _ := ⟨hM2⟩
  clear hM2
  go_wp2
  go_ret
  exact ⟨by rw [HA.out]; rfl, HM2.out⟩

set_option maxRecDepth 100000 in
set_option maxHeartbeats 1000000 in
theorem allc_sct {v : Value} {x : Sct} (hv : sctV S wV v x) (q : Bool) (N : Nat) (hN : Fn N) (pb : Nat) (hp : w0.cell? ⟨pb, 0, none⟩ = some (.func (.func N) #[] #[])) (hpb : pb < w0.heap.size) (hq : Ans N #[v] w0 (.bool q)) :
    Ans 93 #[v, .pointer (some ⟨pb, 0, none⟩)] w0 (.bool (!q)) := by
  intro w hw
  have hp2 : w.cell? ⟨pb, 0, none⟩ = some (.func (.func N) #[] #[]) := by rw [← hp]; exact World.cell?_of_block (hw.block pb hpb (fun h => h))
  have hl := Nat.lt_of_lt_of_le hpb hw.size
  have HQ : Hd (∀ w', Mod (fun _ => False) w w' → _) := ⟨fun w' h' => hq w' (hw.trans h' (fun _ h => Or.inl h))⟩
  obtain ⟨k0, k1, oa1, la1, ca1, rfl, k2⟩ := hv
  unfold Fn at hN
  clear hp hpb hq hw
  go_enter Tryz.func93, Tryz.ntmps93
  go_wp2_with fail
  refine (HQ.out _ ?_).mono ?_
  · first | exact Mod.refl _ _ | exact Mod.alloc _ _ _
  rintro e w2 ⟨rfl, hM2⟩
  have HM2 : Hd (Mod (fun _ => False) w w2) := ⟨by first | exact hM2 | exact (Mod.alloc _ _ _).trans hM2 (fun _ h => Or.inl h)⟩
  clear hM2
  cases q <;>
  · go_wp2
    go_ret
    exact ⟨rfl, HM2.out⟩

theorem fn_93 : Fn 93 := fn_of Tryz.func93 (by decide +kernel) (by kernel_rfl)
set_option maxRecDepth 100000 in
set_option maxHeartbeats 1000000 in
theorem all_sct {l : List Sct} (h : SR S w0 5 (sctV S wV) oa len cap l) (f : Sct → Bool) (N : Nat) (hN : Fn N) (hf : ∀ v x, sctV S wV v x → x ∈ l → Ans N #[v] w0 (.bool (f x))) :
    Ans 42 #[.slice oa len cap, .func (.func N) #[] #[]] w0 (.bool (l.all f)) := by
  intro w hw
  have hlen := h.hlen
  have HC : Hd (∀ t, _) := ⟨fun t => by
    have hw2 : Mod (fun _ => False) w0 (w.alloc (.cells #[.func (.func N) #[] #[]] t)) := hw.trans (Mod.alloc _ _ _) (fun _ h => Or.inl h)
    have hwl : w.heap.size < (w.alloc (.cells #[.func (.func N) #[] #[]] t)).heap.size := by simp
    have hpc : (w.alloc (.cells #[.func (.func N) #[] #[]] t)).cell? ⟨w.heap.size, 0, none⟩ = some (.func (.func N) #[] #[]) := World.cell?_alloc_new w _ t 0
    exact contains_sct (h.keep (hw2.kp S) (fun _ _ h => h)) (fun x => !f x) 93 fn_93 (.pointer (some ⟨w.heap.size, 0, none⟩))
      (fun v x hv hx => allc_sct hv (f x) N hN w.heap.size hpc hwl (fun w' hw' => hf v x hv hx w' (hw2.trans hw' (fun _ h => Or.inl h)))) _ (Mod.refl _ _)⟩
  have HA : Hd _ := ⟨all_any f l⟩
  obtain ⟨r, hr⟩ : ∃ r, l.any (fun x => !f x) = r := ⟨_, rfl⟩
  rw [hr] at HC HA
  clear hr hf h hw hN hlen
  go_enter Tryz.func42, Tryz.ntmps42
  go_wp2_with fail
  refine (HC.out _).mono ?_
  rintro e w2 ⟨rfl, hM2⟩
  have HM2 : Hd (Mod (fun _ => False) w w2) := ⟨(Mod.alloc _ _ _).trans hM2 (fun _ h => Or.inl h)⟩
  clear hM2
  go_wp2
  go_ret
  exact ⟨by rw [← HA.out]; rfl, HM2.out⟩

set_option maxRecDepth 100000 in
set_option maxHeartbeats 1000000 in
theorem index_enm {l : List Enm} (h : SR S w0 3 (enmV S wV) oa len cap l) (f : Enm → Bool) (M : Nat) (hM : Fn M) (c : Value) (hf : ∀ v x, enmV S wV v x → x ∈ l → Ans M #[v, c] w0 (.bool (f x))) :
    Ans 144 #[.slice oa len cap, .func (.func M) #[] #[c]] w0 (.int .i64 (idxI f l)) := by
  intro w hw
  unfold Fn at hM
  have HF : Hd _ := ⟨hf⟩
  have HS : Hd _ := ⟨h⟩
  have HW : Hd _ := ⟨hw⟩
  have hbig := h.hbig
  have hlen := h.hlen
  subst hlen
  clear hf h hw
  obtain ⟨r, hr⟩ : ∃ r, idxI f l = r := ⟨_, rfl⟩
  have HR : Hd _ := ⟨hr⟩
  rw [hr]
  clear hr
  go_enter Tryz.func144, Tryz.ntmps144
  go_wp2_with fail
  go_loopg [8] l.length (fun gk v8 wr => Hd (Mod (fun _ => False) w wr) ∧ ∃ k : Nat, v8 = .int .i64 k ∧ k + gk = l.length ∧ Hd (shf k (idxI f (l.drop k)) = r))
  case atStart => exact ⟨⟨Mod.refl _ _⟩, 0, rfl, by omega, ⟨by rw [← HR.out]; exact shf_0 f l⟩⟩
  case round =>
    obtain ⟨HM, k, rfl, hk, HI⟩ := hrel
    by_cases hlt : k < l.length
    · have hx0 : l[k]? = some l[k] := List.getElem?_eq_getElem (by omega)
      obtain ⟨x, hx⟩ : ∃ x, l[k]? = some x := ⟨_, hx0⟩
      obtain ⟨b, o, oa1, la1, ca1, rfl, _, hb, e0, e1, e2, hv⟩ := HS.out.enm hx
      have hmm := HW.out.trans HM.out (fun _ h => Or.inl h)
      have d0 : wr.cell? ⟨b, o + k * 3, none⟩ = some (.int .i64 x.pos) := by rw [← e0]; exact World.cell?_of_block (hmm.block b hb (fun h => h))
      have d1 : wr.cell? ⟨b, o + k * 3 + 1, none⟩ = some (.string x.name) := by rw [← e1]; exact World.cell?_of_block (hmm.block b hb (fun h => h))
      have d2 : wr.cell? ⟨b, o + k * 3 + 2, none⟩ = some (.slice oa1 la1 ca1) := by rw [← e2]; exact World.cell?_of_block (hmm.block b hb (fun h => h))
      have HC : Hd _ := ⟨HF.out _ x hv (List.mem_of_getElem? hx) wr hmm⟩
      have HX : Hd _ := ⟨hx⟩
      clear hx0 hx hmm e0 e1 e2 hv hb
      go_wp2_with fail
      refine HC.out.mono ?_
      rintro e w2 ⟨rfl, hM2⟩
      have HM2 : Hd (Mod (fun _ => False) w w2) := ⟨HM.out.trans hM2 (fun _ h => Or.inl h)⟩
      clear hM2
      obtain ⟨q, hq⟩ : ∃ q, f x = q := ⟨_, rfl⟩
      rw [hq]
      have HQ : Hd _ := ⟨hq⟩
      clear hq
      cases q with
      | true =>
        go_wp2
        go_ret
        exact ⟨by rw [← HI.out, shf_hit HX.out HQ.out]; rfl, HM2.out⟩
      | false =>
        have HI2 : Hd (shf (k + 1) (idxI f (l.drop (k + 1))) = r) := ⟨by rw [← HI.out, shf_miss HX.out HQ.out]⟩
        go_wp2_with fail
        go_roundg (gk - 1)
        case measure => omega
        case rel => exact ⟨HM2, k + 1, by go_num, by omega, HI2⟩
    · have HI2 : Hd (r = -1) := ⟨by rw [← HI.out]; exact shf_end (by omega)⟩
      go_wp2
      go_ret
      exact ⟨by rw [HI2.out]; rfl, HM.out⟩

set_option maxRecDepth 100000 in
theorem contains_enm {l : List Enm} (h : SR S w0 3 (enmV S wV) oa len cap l) (f : Enm → Bool) (M : Nat) (hM : Fn M) (c : Value) (hf : ∀ v x, enmV S wV v x → x ∈ l → Ans M #[v, c] w0 (.bool (f x))) :
    Ans 101 #[.slice oa len cap, .func (.func M) #[] #[c]] w0 (.bool (l.any f)) := by
  intro w hw
  have HC : Hd _ := ⟨index_enm h f M hM c hf w hw⟩
  have HA : Hd _ := ⟨any_idx f l⟩
  obtain ⟨r, hr⟩ : ∃ r, idxI f l = r := ⟨_, rfl⟩
  rw [hr] at HC HA
  clear hr hf h hw hM
  go_enter Tryz.func101, Tryz.ntmps101
  go_wp2_with fail
  refine HC.out.mono ?_
  rintro e w2 ⟨rfl, hM2⟩
  have HM2 : Hd _ := ⟨hM2⟩
  clear hM2
  go_wp2
  go_ret
  exact ⟨by rw [HA.out]; rfl, HM2.out⟩

set_option maxRecDepth 100000 in
set_option maxHeartbeats 1000000 in
theorem allc_enm {v : Value} {x : Enm} (hv : enmV S wV v x) (q : Bool) (N : Nat) (hN : Fn N) (pb : Nat) (hp : w0.cell? ⟨pb, 0, none⟩ = some (.func (.func N) #[] #[])) (hpb : pb < w0.heap.size) (hq : Ans N #[v] w0 (.bool q)) :
    Ans 102 #[v, .pointer (some ⟨pb, 0, none⟩)] w0 (.bool (!q)) := by
  intro w hw
  have hp2 : w.cell? ⟨pb, 0, none⟩ = some (.func (.func N) #[] #[]) := by rw [← hp]; exact World.cell?_of_block (hw.block pb hpb (fun h => h))
  have hl := Nat.lt_of_lt_of_le hpb hw.size
  have HQ : Hd (∀ w', Mod (fun _ => False) w w' → _) := ⟨fun w' h' => hq w' (hw.trans h' (fun _ h => Or.inl h))⟩
  obtain ⟨k0, k1, oa1, la1, ca1, rfl, k2⟩ := hv
  unfold Fn at hN
  clear hp hpb hq hw
  go_enter Tryz.func102, Tryz.ntmps102
  go_wp2_with fail
  refine (HQ.out _ ?_).mono ?_
  · first | exact Mod.refl _ _ | exact Mod.alloc _ _ _
  rintro e w2 ⟨rfl, hM2⟩
  have HM2 : Hd (Mod (fun _ => False) w w2) := ⟨by first | exact hM2 | exact (Mod.alloc _ _ _).trans hM2 (fun _ h => Or.inl h)⟩
  clear hM2
  cases q <;>
  · go_wp2
    go_ret
    exact ⟨rfl, HM2.out⟩

theorem fn_102 : Fn 102 := fn_of Tryz.func102 (by decide +kernel) (by kernel_rfl)
set_option maxRecDepth 100000 in
set_option maxHeartbeats 1000000 in
theorem all_enm {l : List Enm} (h : SR S w0 3 (enmV S wV) oa len cap l) (f : Enm → Bool) (N : Nat) (hN : Fn N) (hf : ∀ v x, enmV S wV v x → x ∈ l → Ans N #[v] w0 (.bool (f x))) :
    Ans 47 #[.slice oa len cap, .func (.func N) #[] #[]] w0 (.bool (l.all f)) := by
  intro w hw
  have hlen := h.hlen
  have HC : Hd (∀ t, _) := ⟨fun t => by
    have hw2 : Mod (fun _ => False) w0 (w.alloc (.cells #[.func (.func N) #[] #[]] t)) := hw.trans (Mod.alloc _ _ _) (fun _ h => Or.inl h)
    have hwl : w.heap.size < (w.alloc (.cells #[.func (.func N) #[] #[]] t)).heap.size := by simp
    have hpc : (w.alloc (.cells #[.func (.func N) #[] #[]] t)).cell? ⟨w.heap.size, 0, none⟩ = some (.func (.func N) #[] #[]) := World.cell?_alloc_new w _ t 0
    exact contains_enm (h.keep (hw2.kp S) (fun _ _ h => h)) (fun x => !f x) 102 fn_102 (.pointer (some ⟨w.heap.size, 0, none⟩))
      (fun v x hv hx => allc_enm hv (f x) N hN w.heap.size hpc hwl (fun w' hw' => hf v x hv hx w' (hw2.trans hw' (fun _ h => Or.inl h)))) _ (Mod.refl _ _)⟩
  have HA : Hd _ := ⟨all_any f l⟩
  obtain ⟨r, hr⟩ : ∃ r, l.any (fun x => !f x) = r := ⟨_, rfl⟩
  rw [hr] at HC HA
  clear hr hf h hw hN hlen
  go_enter Tryz.func47, Tryz.ntmps47
  go_wp2_with fail
  refine (HC.out _).mono ?_
  rintro e w2 ⟨rfl, hM2⟩
  have HM2 : Hd (Mod (fun _ => False) w w2) := ⟨(Mod.alloc _ _ _).trans hM2 (fun _ h => Or.inl h)⟩
  clear hM2
  go_wp2
  go_ret
  exact ⟨by rw [← HA.out]; rfl, HM2.out⟩
end
end Go.Proofs.YtpodeccpibnlbaaGreatDoor
