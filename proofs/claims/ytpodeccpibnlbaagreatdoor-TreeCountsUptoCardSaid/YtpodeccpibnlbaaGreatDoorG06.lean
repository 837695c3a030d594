/- IndexFunc, ContainsFunc, all, at: fun, stm IndexFunc, ContainsFunc, all, at: blk -/
import Derived.Test.YtpodeccpibnlbaaGreatDoorG04
namespace Go.Proofs.YtpodeccpibnlbaaGreatDoor
set_option linter.unusedVariables false
set_option linter.unusedSimpArgs false
open Go.RowKit
section
variable {S : Nat → Prop} {w0 wV : World} {oa : Option Addr} {len cap : Nat}

set_option maxRecDepth 100000 in
set_option maxHeartbeats 1000000 in
theorem index_fun {l : List Fun} (h : SR S w0 6 (funV S wV) oa len cap l) (f : Fun → Bool) (M : Nat) (hM : Fn M) (c : Value) (hf : ∀ v x, funV S wV v x → x ∈ l → Ans M #[v, c] w0 (.bool (f x))) :
    Ans 145 #[.slice oa len cap, .func (.func M) #[] #[c]] w0 (.int .i64 (idxI f l)) := by
  intro w hw
  unfold Fn at hM
  have HF : Hd _ := ⟨hf⟩
  have HS : Hd _ := ⟨h⟩
  have HW : Hd _ := ⟨hw⟩
  have hbig := h.hbig
  have hlen := h.hlen
  subst hlen
  clear hf h hw
  obtain ⟨r, hr⟩ : ∃ r, idxI f l = r := ⟨_, rfl⟩
  have HR : Hd _ := ⟨hr⟩
  rw [hr]
  clear hr
  go_enter Tryz.func145, Tryz.ntmps145
  go_wp2_with fail
  go_loopg [8] l.length (fun gk v8 wr => Hd (Mod (fun _ => False) w wr) ∧ ∃ k : Nat, v8 = .int .i64 k ∧ k + gk = l.length ∧ Hd (shf k (idxI f (l.drop k)) = r))
  case atStart => exact ⟨⟨Mod.refl _ _⟩, 0, rfl, by omega, ⟨by rw [← HR.out]; exact shf_0 f l⟩⟩
  case round =>
    obtain ⟨HM, k, rfl, hk, HI⟩ := hrel
    by_cases hlt : k < l.length
    · have hx0 : l[k]? = some l[k] := List.getElem?_eq_getElem (by omega)
      obtain ⟨x, hx⟩ : ∃ x, l[k]? = some x := ⟨_, hx0⟩
      obtain ⟨b, o, oa1, la1, ca1, ob1, lb1, cb1, oc1, lc1, cc1, rfl, _, hb, e0, e1, e2, e3, e4, e5, hv⟩ := HS.out.fun hx
      have hmm := HW.out.trans HM.out (fun _ h => Or.inl h)
      have d0 : wr.cell? ⟨b, o + k * 6, none⟩ = some (.int .i64 x.pos) := by rw [← e0]; exact World.cell?_of_block (hmm.block b hb (fun h => h))
      have d1 : wr.cell? ⟨b, o + k * 6 + 1, none⟩ = some (.string x.name) := by rw [← e1]; exact World.cell?_of_block (hmm.block b hb (fun h => h))
      have d2 : wr.cell? ⟨b, o + k * 6 + 2, none⟩ = some (.slice oa1 la1 ca1) := by rw [← e2]; exact World.cell?_of_block (hmm.block b hb (fun h => h))
      have d3 : wr.cell? ⟨b, o + k * 6 + 3, none⟩ = some (.slice ob1 lb1 cb1) := by rw [← e3]; exact World.cell?_of_block (hmm.block b hb (fun h => h))
      have d4 : wr.cell? ⟨b, o + k * 6 + 4, none⟩ = some (.string x.result) := by rw [← e4]; exact World.cell?_of_block (hmm.block b hb (fun h => h))
      have d5 : wr.cell? ⟨b, o + k * 6 + 5, none⟩ = some (.slice oc1 lc1 cc1) := by rw [← e5]; exact World.cell?_of_block (hmm.block b hb (fun h => h))
      have HC : Hd _ := ⟨HF.out _ x hv (List.mem_of_getElem? hx) wr hmm⟩
      have HX : Hd _ := ⟨hx⟩
      clear hx0 hx hmm e0 e1 e2 e3 e4 e5 hv hb
      go_wp2_with fail
      refine HC.out.mono ?_
      rintro e w2 ⟨rfl, hM2⟩
      have HM2 : Hd (Mod (fun _ => False) w w2) := ⟨HM.out.trans hM2 (fun _ h => Or.inl h)⟩
      clear hM2
      obtain ⟨q, hq⟩ : ∃ q, f x = q := ⟨_, rfl⟩
      rw [hq]
      have HQ : Hd _ := ⟨hq⟩
      clear hq
      cases q with
      | true =>
        go_wp2
        go_ret
        exact ⟨by rw [← HI.out, shf_hit HX.out HQ.out]; rfl, HM2.out⟩
      | false =>
        have HI2 : Hd (shf (k + 1) (idxI f (l.drop (k + 1))) = r) := ⟨by rw [← HI.out, shf_miss HX.out HQ.out]⟩
        go_wp2_with fail
        go_roundg (gk - 1)
        case measure => omega
        case rel => exact ⟨HM2, k + 1, by go_num, by omega, HI2⟩
    · have HI2 : Hd (r = -1) := ⟨by rw [← HI.out]; exact shf_end (by omega)⟩
      go_wp2
      go_ret
      exact ⟨by rw [HI2.out]; rfl, HM.out⟩

set_option maxRecDepth 100000 in
theorem contains_fun {l : List Fun} (h : SR S w0 6 (funV S wV) oa len cap l) (f : Fun → Bool) (M : Nat) (hM : Fn M) (c : Value) (hf : ∀ v x, funV S wV v x → x ∈ l → Ans M #[v, c] w0 (.bool (f x))) :
    Ans 103 #[.slice oa len cap, .func (.func M) #[] #[c]] w0 (.bool (l.any f)) := by
  intro w hw
  have HC : Hd _ := ⟨index_fun h f M hM c hf w hw⟩
  have HA : Hd _ := ⟨any_idx f l⟩
  obtain ⟨r, hr⟩ : ∃ r, idxI f l = r := ⟨_, rfl⟩
  rw [hr] at HC HA
  clear hr hf h hw hM
  go_enter Tryz.func103, Tryz.ntmps103
  go_wp2_with fail
  refine HC.out.mono ?_
  rintro e w2 ⟨rfl, hM2⟩
  have HM2 : Hd _ := ⟨hM2⟩
  clear hM2
  go_wp2
  go_ret
  exact ⟨by rw [HA.out]; rfl, HM2.out⟩

set_option maxRecDepth 100000 in
set_option maxHeartbeats 1000000 in
theorem allc_fun {v : Value} {x : Fun} (hv : funV S wV v x) (q : Bool) (N : Nat) (hN : Fn N) (pb : Nat) (hp : w0.cell? ⟨pb, 0, none⟩ = some (.func (.func N) #[] #[])) (hpb : pb < w0.heap.size) (hq : Ans N #[v] w0 (.bool q)) :
    Ans 104 #[v, .pointer (some ⟨pb, 0, none⟩)] w0 (.bool (!q)) := by
  intro w hw
  have hp2 : w.cell? ⟨pb, 0, none⟩ = some (.func (.func N) #[] #[]) := by rw [← hp]; exact World.cell?_of_block (hw.block pb hpb (fun h => h))
  have hl := Nat.lt_of_lt_of_le hpb hw.size
  have HQ : Hd (∀ w', Mod (fun _ => False) w w' → _) := ⟨fun w' h' => hq w' (hw.trans h' (fun _ h => Or.inl h))⟩
  obtain ⟨k0, k1, k2, oa1, la1, ca1, ob1, lb1, cb1, oc1, lc1, cc1, rfl, k3⟩ := hv
  unfold Fn at hN
  clear hp hpb hq hw
  go_enter Tryz.func104, Tryz.ntmps104
  go_wp2_with fail
  refine (HQ.out _ ?_).mono ?_
  · first | exact Mod.refl _ _ | exact Mod.alloc _ _ _
  rintro e w2 ⟨rfl, hM2⟩
  have HM2 : Hd (Mod (fun _ => False) w w2) := ⟨by first | exact hM2 | exact (Mod.alloc _ _ _).trans hM2 (fun _ h => Or.inl h)⟩
  clear hM2
  cases q <;>
  · go_wp2
    go_ret
    exact ⟨rfl, HM2.out⟩

theorem fn_104 : Fn 104 := fn_of Tryz.func104 (by decide +kernel) (by kernel_rfl)
set_option maxRecDepth 100000 in
set_option maxHeartbeats 1000000 in
theorem all_fun {l : List Fun} (h : SR S w0 6 (funV S wV) oa len cap l) (f : Fun → Bool) (N : Nat) (hN : Fn N) (hf : ∀ v x, funV S wV v x → x ∈ l → Ans N #[v] w0 (.bool (f x))) :
    Ans 50 #[.slice oa len cap, .func (.func N) #[] #[]] w0 (.bool (l.all f)) := by
  intro w hw
  have hlen := h.hlen
  have HC : Hd (∀ t, _) := ⟨fun t => by
    have hw2 : Mod (fun _ => False) w0 (w.alloc (.cells #[.func (.func N) #[] #[]] t)) := hw.trans (Mod.alloc _ _ _) (fun _ h => Or.inl h)
    have hwl : w.heap.size < (w.alloc (.cells #[.func (.func N) #[] #[]] t)).heap.size := by simp
    have hpc : (w.alloc (.cells #[.func (.func N) #[] #[]] t)).cell? ⟨w.heap.size, 0, none⟩ = some (.func (.func N) #[] #[]) := World.cell?_alloc_new w _ t 0
    exact contains_fun (h.keep (hw2.kp S) (fun _ _ h => h)) (fun x => !f x) 104 fn_104 (.pointer (some ⟨w.heap.size, 0, none⟩))
      (fun v x hv hx => allc_fun hv (f x) N hN w.heap.size hpc hwl (fun w' hw' => hf v x hv hx w' (hw2.trans hw' (fun _ h => Or.inl h)))) _ (Mod.refl _ _)⟩
  have HA : Hd _ := ⟨all_any f l⟩
  obtain ⟨r, hr⟩ : ∃ r, l.any (fun x => !f x) = r := ⟨_, rfl⟩
  rw [hr] at HC HA
  clear hr hf h hw hN hlen
  go_enter Tryz.func50, Tryz.ntmps50
  go_wp2_with fail
  refine (HC.out _).mono ?_
  rintro e w2 ⟨rfl, hM2⟩
  have HM2 : Hd (Mod (fun _ => False) w w2) := ⟨(Mod.alloc _ _ _).trans hM2 (fun _ h => Or.inl h)⟩
  clear hM2
  go_wp2
  go_ret
  exact ⟨by rw [← HA.out]; rfl, HM2.out⟩

set_option maxRecDepth 100000 in
set_option maxHeartbeats 1000000 in
theorem index_stm {l : List Stm} (h : SR S w0 8 (stmV S wV) oa len cap l) (f : Stm → Bool) (M : Nat) (hM : Fn M) (c : Value) (hf : ∀ v x, stmV S wV v x → x ∈ l → Ans M #[v, c] w0 (.bool (f x))) :
    Ans 187 #[.slice oa len cap, .func (.func M) #[] #[c]] w0 (.int .i64 (idxI f l)) := by
  intro w hw
  unfold Fn at hM
  have HF : Hd _ := ⟨hf⟩
  have HS : Hd _ := ⟨h⟩
  have HW : Hd _ := ⟨hw⟩
  have hbig := h.hbig
  have hlen := h.hlen
  subst hlen
  clear hf h hw
  obtain ⟨r, hr⟩ : ∃ r, idxI f l = r := ⟨_, rfl⟩
  have HR : Hd _ := ⟨hr⟩
  rw [hr]
  clear hr
  go_enter Tryz.func187, Tryz.ntmps187
  go_wp2_with fail
  go_loopg [8] l.length (fun gk v8 wr => Hd (Mod (fun _ => False) w wr) ∧ ∃ k : Nat, v8 = .int .i64 k ∧ k + gk = l.length ∧ Hd (shf k (idxI f (l.drop k)) = r))
  case atStart => exact ⟨⟨Mod.refl _ _⟩, 0, rfl, by omega, ⟨by rw [← HR.out]; exact shf_0 f l⟩⟩
  case round =>
    obtain ⟨HM, k, rfl, hk, HI⟩ := hrel
    by_cases hlt : k < l.length
    · have hx0 : l[k]? = some l[k] := List.getElem?_eq_getElem (by omega)
      obtain ⟨x, hx⟩ : ∃ x, l[k]? = some x := ⟨_, hx0⟩
      obtain ⟨b, o, oa1, la1, ca1, ob1, lb1, cb1, rfl, _, hb, e0, e1, e2, e3, e4, e5, e6, e7, hv⟩ := HS.out.stm hx
      have hmm := HW.out.trans HM.out (fun _ h => Or.inl h)
      have d0 : wr.cell? ⟨b, o + k * 8, none⟩ = some (.int .i64 x.pos) := by rw [← e0]; exact World.cell?_of_block (hmm.block b hb (fun h => h))
      have d1 : wr.cell? ⟨b, o + k * 8 + 1, none⟩ = some (.int .i64 x.kind) := by rw [← e1]; exact World.cell?_of_block (hmm.block b hb (fun h => h))
      have d2 : wr.cell? ⟨b, o + k * 8 + 2, none⟩ = some (.string x.dest.loc) := by rw [← e2]; exact World.cell?_of_block (hmm.block b hb (fun h => h))
      have d3 : wr.cell? ⟨b, o + k * 8 + 3, none⟩ = some (.slice oa1 la1 ca1) := by rw [← e3]; exact World.cell?_of_block (hmm.block b hb (fun h => h))
      have d4 : wr.cell? ⟨b, o + k * 8 + 4, none⟩ = some (.int .i64 x.n) := by rw [← e4]; exact World.cell?_of_block (hmm.block b hb (fun h => h))
      have d5 : wr.cell? ⟨b, o + k * 8 + 5, none⟩ = some (.string x.name) := by rw [← e5]; exact World.cell?_of_block (hmm.block b hb (fun h => h))
      have d6 : wr.cell? ⟨b, o + k * 8 + 6, none⟩ = some (.string x.variant) := by rw [← e6]; exact World.cell?_of_block (hmm.block b hb (fun h => h))
      have d7 : wr.cell? ⟨b, o + k * 8 + 7, none⟩ = some (.slice ob1 lb1 cb1) := by rw [← e7]; exact World.cell?_of_block (hmm.block b hb (fun h => h))
      have HC : Hd _ := ⟨HF.out _ x hv (List.mem_of_getElem? hx) wr hmm⟩
      have HX : Hd _ := ⟨hx⟩
      clear hx0 hx hmm e0 e1 e2 e3 e4 e5 e6 e7 hv hb
      go_wp2_with fail
      refine HC.out.mono ?_
      rintro e w2 ⟨rfl, hM2⟩
      have HM2 : Hd (Mod (fun _ => False) w w2) := ⟨HM.out.trans hM2 (fun _ h => Or.inl h)⟩
      clear hM2
      obtain ⟨q, hq⟩ : ∃ q, f x = q := ⟨_, rfl⟩
      rw [hq]
      have HQ : Hd _ := ⟨hq⟩
      clear hq
      cases q with
      | true =>
        go_wp2
        go_ret
        exact ⟨by rw [← HI.out, shf_hit HX.out HQ.out]; rfl, HM2.out⟩
      | false =>
        have HI2 : Hd (shf (k + 1) (idxI f (l.drop (k + 1))) = r) := ⟨by rw [← HI.out, shf_miss HX.out HQ.out]⟩
        go_wp2_with fail
        go_roundg (gk - 1)
        case measure => omega
        case rel => exact ⟨HM2, k + 1, by go_num, by omega, HI2⟩
    · have HI2 : Hd (r = -1) := ⟨by rw [← HI.out]; exact shf_end (by omega)⟩
      go_wp2
      go_ret
      exact ⟨by rw [HI2.out]; rfl, HM.out⟩

set_option maxRecDepth 100000 in
theorem contains_stm {l : List Stm} (h : SR S w0 8 (stmV S wV) oa len cap l) (f : Stm → Bool) (M : Nat) (hM : Fn M) (c : Value) (hf : ∀ v x, stmV S wV v x → x ∈ l → Ans M #[v, c] w0 (.bool (f x))) :
    Ans 170 #[.slice oa len cap, .func (.func M) #[] #[c]] w0 (.bool (l.any f)) := by
  intro w hw
  have HC : Hd _ := ⟨index_stm h f M hM c hf w hw⟩
  have HA : Hd _ := ⟨any_idx f l⟩
  obtain ⟨r, hr⟩ : ∃ r, idxI f l = r := ⟨_, rfl⟩
  rw [hr] at HC HA
  clear hr hf h hw hM
  go_enter Tryz.func170, Tryz.ntmps170
  go_wp2_with fail
  refine HC.out.mono ?_
  rintro e w2 ⟨rfl, hM2⟩
  have HM2 : Hd _ := ⟨hM2⟩
  clear hM2
  go_wp2
  go_ret
  exact ⟨by rw [HA.out]; rfl, HM2.out⟩

set_option maxRecDepth 100000 in
set_option maxHeartbeats 1000000 in
theorem allc_stm {v : Value} {x : Stm} (hv : stmV S wV v x) (q : Bool) (N : Nat) (hN : Fn N) (pb : Nat) (hp : w0.cell? ⟨pb, 0, none⟩ = some (.func (.func N) #[] #[])) (hpb : pb < w0.heap.size) (hq : Ans N #[v] w0 (.bool q)) :
    Ans 171 #[v, .pointer (some ⟨pb, 0, none⟩)] w0 (.bool (!q)) := by
  intro w hw
  have hp2 : w.cell? ⟨pb, 0, none⟩ = some (.func (.func N) #[] #[]) := by rw [← hp]; exact World.cell?_of_block (hw.block pb hpb (fun h => h))
  have hl := Nat.lt_of_lt_of_le hpb hw.size
  have HQ : Hd (∀ w', Mod (fun _ => False) w w' → _) := ⟨fun w' h' => hq w' (hw.trans h' (fun _ h => Or.inl h))⟩
  obtain ⟨k0, k1, k2, k3, k4, k5, oa1, la1, ca1, ob1, lb1, cb1, rfl, k6, k7⟩ := hv
  unfold Fn at hN
  clear hp hpb hq hw
  go_enter Tryz.func171, Tryz.ntmps171
  go_wp2_with fail
  refine (HQ.out _ ?_).mono ?_
  · first | exact Mod.refl _ _ | exact Mod.alloc _ _ _
  rintro e w2 ⟨rfl, hM2⟩
  have HM2 : Hd (Mod (fun _ => False) w w2) := ⟨by first | exact hM2 | exact (Mod.alloc _ _ _).trans hM2 (fun _ h => Or.inl h)⟩
  clear hM2
  cases q <;>
  · go_wp2
    go_ret
    exact ⟨rfl, HM2.out⟩

theorem fn_171 : Fn 171 := fn_of Tryz.func171 (by decide +kernel) (by kernel_rfl)
set_option maxRecDepth 100000 in
set_option maxHeartbeats 1000000 in
theorem all_stm {l : List Stm} (h : SR S w0 8 (stmV S wV) oa len cap l) (f : Stm → Bool) (N : Nat) (hN : Fn N) (hf : ∀ v x, stmV S wV v x → x ∈ l → Ans N #[v] w0 (.bool (f x))) :
    Ans 149 #[.slice oa len cap, .func (.func N) #[] #[]] w0 (.bool (l.all f)) := by
  intro w hw
  have hlen := h.hlen
  have HC : Hd (∀ t, _) := ⟨fun t => by
    have hw2 : Mod (fun _ => False) w0 (w.alloc (.cells #[.func (.func N) #[] #[]] t)) := hw.trans (Mod.alloc _ _ _) (fun _ h => Or.inl h)
    have hwl : w.heap.size < (w.alloc (.cells #[.func (.func N) #[] #[]] t)).heap.size := by simp
    have hpc : (w.alloc (.cells #[.func (.func N) #[] #[]] t)).cell? ⟨w.heap.size, 0, none⟩ = some (.func (.func N) #[] #[]) := World.cell?_alloc_new w _ t 0
    exact contains_stm (h.keep (hw2.kp S) (fun _ _ h => h)) (fun x => !f x) 171 fn_171 (.pointer (some ⟨w.heap.size, 0, none⟩))
      (fun v x hv hx => allc_stm hv (f x) N hN w.heap.size hpc hwl (fun w' hw' => hf v x hv hx w' (hw2.trans hw' (fun _ h => Or.inl h)))) _ (Mod.refl _ _)⟩
  have HA : Hd _ := ⟨all_any f l⟩
  obtain ⟨r, hr⟩ : ∃ r, l.any (fun x => !f x) = r := ⟨_, rfl⟩
  rw [hr] at HC HA
  clear hr hf h hw hN hlen
  go_enter Tryz.func149, Tryz.ntmps149
  go_wp2_with fail
  refine (HC.out _).mono ?_
  rintro e w2 ⟨rfl, hM2⟩
  have HM2 : Hd (Mod (fun _ => False) w w2) := ⟨(Mod.alloc _ _ _).trans hM2 (fun _ h => Or.inl h)⟩
  clear hM2
  go_wp2
  go_ret
  exact ⟨by rw [← HA.out]; rfl, HM2.out⟩
end
end Go.Proofs.YtpodeccpibnlbaaGreatDoor
namespace Go.Proofs.YtpodeccpibnlbaaGreatDoor
set_option linter.unusedVariables false
set_option linter.unusedSimpArgs false
open Go.RowKit
section
variable {S : Nat → Prop} {w0 wV : World} {oa : Option Addr} {len cap : Nat}

set_option maxRecDepth 100000 in
set_option maxHeartbeats 1000000 in
theorem index_blk {l : List Blk} (h : SR S w0 11 (blkV S wV) oa len cap l) (f : Blk → Bool) (M : Nat) (hM : Fn M) (c : Value) (hf : ∀ v x, blkV S wV v x → x ∈ l → Ans M #[v, c] w0 (.bool (f x))) :
    Ans 82 #[.slice oa len cap, .func (.func M) #[] #[c]] w0 (.int .i64 (idxI f l)) := by
  intro w hw
  unfold Fn at hM
  have HF : Hd _ := ⟨hf⟩
  have HS : Hd _ := ⟨h⟩
  have HW : Hd _ := ⟨hw⟩
  have hbig := h.hbig
  have hlen := h.hlen
  subst hlen
  clear hf h hw
  obtain ⟨r, hr⟩ : ∃ r, idxI f l = r := ⟨_, rfl⟩
  have HR : Hd _ := ⟨hr⟩
  rw [hr]
  clear hr
  go_enter Tryz.func82, Tryz.ntmps82
  go_wp2_with fail
  go_loopg [8] l.length (fun gk v8 wr => Hd (Mod (fun _ => False) w wr) ∧ ∃ k : Nat, v8 = .int .i64 k ∧ k + gk = l.length ∧ Hd (shf k (idxI f (l.drop k)) = r))
  case atStart => exact ⟨⟨Mod.refl _ _⟩, 0, rfl, by omega, ⟨by rw [← HR.out]; exact shf_0 f l⟩⟩
  case round =>
    obtain ⟨HM, k, rfl, hk, HI⟩ := hrel
    by_cases hlt : k < l.length
    · have hx0 : l[k]? = some l[k] := List.getElem?_eq_getElem (by omega)
      obtain ⟨x, hx⟩ : ∃ x, l[k]? = some x := ⟨_, hx0⟩
      obtain ⟨b, o, oa1, la1, ca1, ob1, lb1, cb1, oc1, lc1, cc1, od1, ld1, cd1, oe1, le1, ce1, rfl, _, hb, e0, e1, e2, e3, e4, e5, e6, e7, e8, e9, e10, hv⟩ := HS.out.blk hx
      have hmm := HW.out.trans HM.out (fun _ h => Or.inl h)
      have d0 : wr.cell? ⟨b, o + k * 11, none⟩ = some (.int .i64 x.pos) := by rw [← e0]; exact World.cell?_of_block (hmm.block b hb (fun h => h))
      have d1 : wr.cell? ⟨b, o + k * 11 + 1, none⟩ = some (.string x.name) := by rw [← e1]; exact World.cell?_of_block (hmm.block b hb (fun h => h))
      have d2 : wr.cell? ⟨b, o + k * 11 + 2, none⟩ = some (.slice oa1 la1 ca1) := by rw [← e2]; exact World.cell?_of_block (hmm.block b hb (fun h => h))
      have d3 : wr.cell? ⟨b, o + k * 11 + 3, none⟩ = some (.int .i64 x.term.pos) := by rw [← e3]; exact World.cell?_of_block (hmm.block b hb (fun h => h))
      have d4 : wr.cell? ⟨b, o + k * 11 + 4, none⟩ = some (.int .i64 x.term.kind) := by rw [← e4]; exact World.cell?_of_block (hmm.block b hb (fun h => h))
      have d5 : wr.cell? ⟨b, o + k * 11 + 5, none⟩ = some (.string x.term.dest.loc) := by rw [← e5]; exact World.cell?_of_block (hmm.block b hb (fun h => h))
      have d6 : wr.cell? ⟨b, o + k * 11 + 6, none⟩ = some (.slice ob1 lb1 cb1) := by rw [← e6]; exact World.cell?_of_block (hmm.block b hb (fun h => h))
      have d7 : wr.cell? ⟨b, o + k * 11 + 7, none⟩ = some (.string x.term.name) := by rw [← e7]; exact World.cell?_of_block (hmm.block b hb (fun h => h))
      have d8 : wr.cell? ⟨b, o + k * 11 + 8, none⟩ = some (.slice oc1 lc1 cc1) := by rw [← e8]; exact World.cell?_of_block (hmm.block b hb (fun h => h))
      have d9 : wr.cell? ⟨b, o + k * 11 + 9, none⟩ = some (.slice od1 ld1 cd1) := by rw [← e9]; exact World.cell?_of_block (hmm.block b hb (fun h => h))
      have d10 : wr.cell? ⟨b, o + k * 11 + 10, none⟩ = some (.slice oe1 le1 ce1) := by rw [← e10]; exact World.cell?_of_block (hmm.block b hb (fun h => h))
      have HC : Hd _ := ⟨HF.out _ x hv (List.mem_of_getElem? hx) wr hmm⟩
      have HX : Hd _ := ⟨hx⟩
      clear hx0 hx hmm e0 e1 e2 e3 e4 e5 e6 e7 e8 e9 e10 hv hb
      go_wp2_with fail
      refine HC.out.mono ?_
      rintro e w2 ⟨rfl, hM2⟩
      have HM2 : Hd (Mod (fun _ => False) w w2) := ⟨HM.out.trans hM2 (fun _ h => Or.inl h)⟩
      clear hM2
      obtain ⟨q, hq⟩ : ∃ q, f x = q := ⟨_, rfl⟩
      rw [hq]
      have HQ : Hd _ := ⟨hq⟩
      clear hq
      cases q with
      | true =>
        go_wp2
        go_ret
        exact ⟨by rw [← HI.out, shf_hit HX.out HQ.out]; rfl, HM2.out⟩
      | false =>
        have HI2 : Hd (shf (k + 1) (idxI f (l.drop (k + 1))) = r) := ⟨by rw [← HI.out, shf_miss HX.out HQ.out]⟩
        go_wp2_with fail
        go_roundg (gk - 1)
        case measure => omega
        case rel => exact ⟨HM2, k + 1, by go_num, by omega, HI2⟩
    · have HI2 : Hd (r = -1) := ⟨by rw [← HI.out]; exact shf_end (by omega)⟩
      go_wp2
      go_ret
      exact ⟨by rw [HI2.out]; rfl, HM.out⟩

set_option maxRecDepth 100000 in
theorem contains_blk {l : List Blk} (h : SR S w0 11 (blkV S wV) oa len cap l) (f : Blk → Bool) (M : Nat) (hM : Fn M) (c : Value) (hf : ∀ v x, blkV S wV v x → x ∈ l → Ans M #[v, c] w0 (.bool (f x))) :
    Ans 147 #[.slice oa len cap, .func (.func M) #[] #[c]] w0 (.bool (l.any f)) := by
  intro w hw
  have HC : Hd _ := ⟨index_blk h f M hM c hf w hw⟩
  have HA : Hd _ := ⟨any_idx f l⟩
  obtain ⟨r, hr⟩ : ∃ r, idxI f l = r := ⟨_, rfl⟩
  rw [hr] at HC HA
  clear hr hf h hw hM
  go_enter Tryz.func147, Tryz.ntmps147
  go_wp2_with fail
  refine HC.out.mono ?_
  rintro e w2 ⟨rfl, hM2⟩
  have HM2 : Hd _ := ⟨hM2⟩
  clear hM2
  go_wp2
  go_ret
  exact ⟨by rw [HA.out]; rfl, HM2.out⟩

set_option maxRecDepth 100000 in
set_option maxHeartbeats 1000000 in
theorem allc_blk {v : Value} {x : Blk} (hv : blkV S wV v x) (q : Bool) (N : Nat) (hN : Fn N) (pb : Nat) (hp : w0.cell? ⟨pb, 0, none⟩ = some (.func (.func N) #[] #[])) (hpb : pb < w0.heap.size) (hq : Ans N #[v] w0 (.bool q)) :
    Ans 148 #[v, .pointer (some ⟨pb, 0, none⟩)] w0 (.bool (!q)) := by
  intro w hw
  have hp2 : w.cell? ⟨pb, 0, none⟩ = some (.func (.func N) #[] #[]) := by rw [← hp]; exact World.cell?_of_block (hw.block pb hpb (fun h => h))
  have hl := Nat.lt_of_lt_of_le hpb hw.size
  have HQ : Hd (∀ w', Mod (fun _ => False) w w' → _) := ⟨fun w' h' => hq w' (hw.trans h' (fun _ h => Or.inl h))⟩
  obtain ⟨k0, k1, oa1, la1, ca1, ob1, lb1, cb1, oc1, lc1, cc1, od1, ld1, cd1, oe1, le1, ce1, rfl, k2⟩ := hv
  unfold Fn at hN
  clear hp hpb hq hw
  go_enter Tryz.func148, Tryz.ntmps148
  go_wp2_with fail
  refine (HQ.out _ ?_).mono ?_
  · first | exact Mod.refl _ _ | exact Mod.alloc _ _ _
  rintro e w2 ⟨rfl, hM2⟩
  have HM2 : Hd (Mod (fun _ => False) w w2) := ⟨by first | exact hM2 | exact (Mod.alloc _ _ _).trans hM2 (fun _ h => Or.inl h)⟩
  clear hM2
  cases q <;>
  · go_wp2
    go_ret
    exact ⟨rfl, HM2.out⟩

theorem fn_148 : Fn 148 := fn_of Tryz.func148 (by decide +kernel) (by kernel_rfl)
set_option maxRecDepth 100000 in
set_option maxHeartbeats 1000000 in
theorem all_blk {l : List Blk} (h : SR S w0 11 (blkV S wV) oa len cap l) (f : Blk → Bool) (N : Nat) (hN : Fn N) (hf : ∀ v x, blkV S wV v x → x ∈ l → Ans N #[v] w0 (.bool (f x))) :
    Ans 106 #[.slice oa len cap, .func (.func N) #[] #[]] w0 (.bool (l.all f)) := by
  intro w hw
  have hlen := h.hlen
  have HC : Hd (∀ t, _) := ⟨fun t => by
    have hw2 : Mod (fun _ => False) w0 (w.alloc (.cells #[.func (.func N) #[] #[]] t)) := hw.trans (Mod.alloc _ _ _) (fun _ h => Or.inl h)
    have hwl : w.heap.size < (w.alloc (.cells #[.func (.func N) #[] #[]] t)).heap.size := by simp
    have hpc : (w.alloc (.cells #[.func (.func N) #[] #[]] t)).cell? ⟨w.heap.size, 0, none⟩ = some (.func (.func N) #[] #[]) := World.cell?_alloc_new w _ t 0
    exact contains_blk (h.keep (hw2.kp S) (fun _ _ h => h)) (fun x => !f x) 148 fn_148 (.pointer (some ⟨w.heap.size, 0, none⟩))
      (fun v x hv hx => allc_blk hv (f x) N hN w.heap.size hpc hwl (fun w' hw' => hf v x hv hx w' (hw2.trans hw' (fun _ h => Or.inl h)))) _ (Mod.refl _ _)⟩
  have HA : Hd _ := ⟨all_any f l⟩
  obtain ⟨r, hr⟩ : ∃ r, l.any (fun x => !f x) = r := ⟨_, rfl⟩
  rw [hr] at HC HA
  clear hr hf h hw hN hlen
  go_enter Tryz.func106, Tryz.ntmps106
  go_wp2_with fail
  refine (HC.out _).mono ?_
  rintro e w2 ⟨rfl, hM2⟩
  have HM2 : Hd (Mod (fun _ => False) w w2) := ⟨(Mod.alloc _ _ _).trans hM2 (fun _ h => Or.inl h)⟩
  clear hM2
  go_wp2
  go_ret
  exact ⟨by rw [← HA.out]; rfl, HM2.out⟩
end
end Go.Proofs.YtpodeccpibnlbaaGreatDoor
