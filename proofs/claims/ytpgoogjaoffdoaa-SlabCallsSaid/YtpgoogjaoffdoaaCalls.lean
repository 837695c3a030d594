/- SlabCalls: its walk. -/
import Derived.Test.YtpgoogjaoffdoaaCallsS
namespace Go.Proofs.Ytpgoogjaoffdoaa
set_option linter.unusedVariables false
set_option linter.unusedSimpArgs false
open Go.RowKit

theorem LI.start {W wn : World} {b1 n : Nat} (hn : n ≤ 16384) (hM : Mod (fun _ => False) W wn) (hb : W.heap.size ≤ b1) (hbl : b1 < wn.heap.size) (hR : Rep wn b1 ⟨n, 0, 0, [], []⟩ (fun j => if j = b1 then some .base else none)) :
    LI W (((wn.alloc (.cells #[.int .i64 (n : Int), .slice none 0 0, .slice none 0 0, .int .i64 0] 72)).alloc (.cells #[] 23)).alloc (.cells #[.slice (some ⟨wn.heap.size + 1, 0, none⟩) 0 0] 34)) b1 wn.heap.size (wn.heap.size + 1 + 1) 0 ⟨n, 0, 0, [], []⟩ ⟨n, [], [], 0⟩
      (fun j => if j = b1 then some .base else none) (fun j => if j = wn.heap.size then some .base else none) (wn.heap.size + 1) 0 [] := by
  have t := three wn (.cells #[.int .i64 (n : Int), .slice none 0 0, .slice none 0 0, .int .i64 0] 72) (.cells #[] 23) (.cells #[.slice (some ⟨wn.heap.size + 1, 0, none⟩) 0 0] 34)
  obtain ⟨tm, t1, t2, t3⟩ := t
  rw [heap_drew] at t1 t2 t3
  have hM3 : Mod (fun _ => False) wn (((wn.alloc (.cells #[.int .i64 (n : Int), .slice none 0 0, .slice none 0 0, .int .i64 0] 72)).alloc (.cells #[] 23)).alloc (.cells #[.slice (some ⟨wn.heap.size + 1, 0, none⟩) 0 0] 34)) :=
    ((Mod.alloc (fun _ => False) _ _).trans (Mod.alloc (fun _ => False) _ _) (fun _ h => Or.inl h)).trans (Mod.alloc (fun _ => False) _ _) (fun _ h => Or.inl h)
  have hs := hM.size
  have hsz : (((wn.alloc (.cells #[.int .i64 (n : Int), .slice none 0 0, .slice none 0 0, .int .i64 0] 72)).alloc (.cells #[] 23)).alloc (.cells #[.slice (some ⟨wn.heap.size + 1, 0, none⟩) 0 0] 34)).heap.size = wn.heap.size + 1 + 1 + 1 := by simp
  refine ⟨⟨hR.keep hM3.size fun k hk => hM3.block k (hR.dom k hk) (fun h => h), ⟨⟨none, 0, none, 0, []⟩, ⟨?_, t1, by simp, rfl, Sl.nilOf _ _ _, fun g hg => (by cases hg), Sl.nilOf _ _ _, fun g hg => (by cases hg), fun i q hq => (by simp at hq), fun i q hq => (by simp at hq), fun i q hq => (by simp at hq), fun i q hq => (by simp at hq)⟩⟩, ?_⟩,
    St.start n hn, ⟨t3, ?_, ?_, ?_, ?_, ?_, by omega, by simp⟩, by simp, ?_, ?_, by omega, by omega, hM.trans hM3 (fun _ h => h.elim)⟩
  · intro k hk
    by_cases e : k = wn.heap.size
    · rw [hsz]; omega
    · rw [if_neg e] at hk; exact absurd rfl hk
  · intro k hk
    by_cases e : k = b1
    · rw [if_neg (by omega)]
    · rw [if_neg e] at hk; exact absurd rfl hk
  · refine ⟨rfl, Nat.le_refl _, Nat.zero_le _, fun h => (by cases h), fun g hg => ?_⟩
    obtain rfl := Option.some.inj hg
    exact ⟨#[], t2, by simp, by simp [encA']⟩
  · rw [if_neg (by omega)]
  · rw [if_neg (by omega)]
  · rw [if_neg (by omega)]
  · rw [if_neg (by omega)]
  · intro k hk
    by_cases e : k = b1
    · omega
    · rw [if_neg e] at hk; exact absurd rfl hk
  · intro k hk
    by_cases e : k = wn.heap.size
    · omega
    · rw [if_neg e] at hk; exact absurd rfl hk

theorem add_field (z : Addr) (k j : Nat) (hj : 0 < j) : z.add (k + j) = ⟨(z.add k).block, (z.add k).off + j, none⟩ := by
  have h1 : ¬ k + j = 0 := by omega
  by_cases hk : k = 0
  · subst hk
    have h0 : ¬ j = 0 := by omega
    simp [Addr.add, h0]
  · simp [Addr.add, hk, h1]
    omega

theorem below_box {w W1 w9 : World} {o : Obj} (h : w.alloc o = W1) (hM : Mod (fun _ => False) W1 w9) : Below w.heap.size w w9 := by
  subst h
  exact ((Mod.alloc (fun _ => False) w o).trans hM (fun _ h => h.elim)).below (Nat.le_refl _) (fun _ _ h => h)
theorem copied_drew {w w' : World} {y : Nat} {r : RSS} (h : Copied w.drew y r w') : Copied w y r w' := by
  obtain ⟨own, L, h1, h2, h3⟩ := h
  exact ⟨own, L, h1, h2, (Mod.drew (fun _ => False) w).trans h3 (fun _ h => h.elim)⟩
theorem copied_mod {w w' : World} {y : Nat} {r : RSS} (h : Copied w y r w') : Mod (fun _ => False) w w' := by
  obtain ⟨own, L, h1, h2, h3⟩ := h
  exact h3

set_option maxRecDepth 100000 in
set_option maxHeartbeats 4000000 in
theorem calls_out (a0 : Int) (oa : Option Addr) (len cap : Nat) (v1 v2 v3 v4 : Value) (h : 100 < len) (w : World) :
    Calls Try.prog 3 #[.int .i64 a0, .slice oa len cap, .agg #[v1, v2, v3, v4]] w fun e w' => e = .returned (.bool true) ∧ Below w.heap.size w w' := by
  go_enter Try.func3, Try.ntmps3
  go_wp2_with fail
  refine (alive_calls _).mono ?_
  rintro e w1 ⟨rfl, hB⟩
  have HB : Hd _ := ⟨hB⟩
  clear hB
  go_wp2
  go_ret
  have h1 := HB.out
  exact ⟨rfl, ((Below.refl _ w).alloc (Nat.le_refl _) _).trans (h1.mono (by simp))⟩

set_option maxRecDepth 100000 in
set_option maxHeartbeats 4000000 in
theorem calls_walk (a0 : Int) (oa : Option Addr) (len cap : Nat) (what of n : Int) (y : Nat) (hlen : len ≤ 100) (w : World) (hA : Arg4 w oa len cap) (hof1 : -9223372036854775808 ≤ of) (hof2 : of ≤ 9223372036854775807) (hn1 : -9223372036854775808 ≤ n) (hn2 : n ≤ 9223372036854775807) (hby : y < 18446744073709551616) :
    Calls Try.prog 3 #[.int .i64 a0, .slice oa len cap, .agg #[.int .i64 what, .int .i64 of, .int .i64 n, .int .u64 (y : Int)]] w fun e w' => e = .returned (.bool true) ∧ Below w.heap.size w w' := by
  have HA : Hd _ := ⟨hA⟩
  have hcap := hA.hle
  clear hA
  go_enter Try.func3, Try.ntmps3
  go_wp2_with fail
  refine (alive_calls _).mono ?_
  rintro e w1 ⟨rfl, hB⟩
  have HM1 : Hd _ := ⟨Mod.of_below hB⟩
  clear hB
  by_cases hbad : a0 < 0 ∨ 16384 < a0
  · go_wp2_with fail
    refine (new_calls a0 _).mono ?_
    rintro e w2 h
    rw [if_pos hbad] at h
    obtain ⟨rfl, rfl⟩ := h
    go_wp2_with fail
    refine (rnew_bad a0 hbad _).mono ?_
    rintro e w3 ⟨rfl, rfl⟩
    go_wp2
    go_ret
    exact ⟨rfl, below_box rfl HM1.out⟩
  · obtain ⟨N, rfl⟩ := Int.eq_ofNat_of_zero_le (show 0 ≤ a0 by omega)
    have hN : N ≤ 16384 := by omega
    go_wp2_with fail
    refine (new_calls _ _).mono ?_
    rintro e wn h
    rw [if_neg hbad] at h
    obtain ⟨rfl, hMn, hlt, hrep⟩ := h
    rw [Int.toNat_natCast] at hrep
    have HST : Hd _ := ⟨LI.start hN (HM1.out.trans hMn (fun _ h => h.elim)) HM1.out.size hlt hrep⟩
    clear hMn hlt hrep hbad
    go_wp2_with fail
    refine (rnew_good _ (by omega) (by omega) _).mono ?_
    rintro e w3 ⟨rfl, rfl⟩
    go_wp2_with fail
    obtain ⟨W1, hW1⟩ : ∃ W1, w.alloc (.cells #[.int .i64 what, .int .i64 of, .int .i64 n, .int .u64 (y : Int)] 25) = W1 := ⟨_, rfl⟩
    have HW1 : Hd _ := ⟨hW1⟩
    rw [hW1] at HST HM1
    have HA1 : Hd (Arg4 W1 oa len cap) := ⟨by rw [← hW1]; exact HA.out.mod (Mod.alloc (fun _ => False) _ _)⟩
    have HB0 : Hd (W1.heap[w.heap.size]? = some (.cells #[.int .i64 what, .int .i64 of, .int .i64 n, .int .u64 (y : Int)] 25 (0, 0)) ∧ w.heap.size < W1.heap.size) := ⟨by rw [← hW1]; exact heap_alloc_new _ _, by rw [← hW1]; simp⟩
    clear hW1 HA
    go_loopg [12] len (fun gk v12 wr => ∃ (i : Nat) (s : SS) (r : RSS) (own1 : Nat → Option Rl) (own2 : Nat → Option Rr) (g c : Nat) (L : List Nat), v12 = .int .i64 i ∧ i + gk = len ∧ Hd (LI W1 wr w1.heap.size wn.heap.size (wn.heap.size + 1 + 1) i s r own1 own2 g c L))
    case atStart => exact ⟨0, _, _, _, _, _, _, _, rfl, by omega, HST⟩
    case round =>
      clear HST
      obtain ⟨i, s, r, own1, own2, g, c, L, rfl, hi, HI⟩ := hrel
      by_cases hlt : i < len
      · obtain ⟨z, wh, f, m, b, rfl, hz0, z0, z1, z2, z3, f1, f2, m1, m2, hb⟩ := (HA1.out.mod HI.out.mod).at' i hlt
        rw [add_field z (i * 4) 1 (by omega)] at z1
        rw [add_field z (i * 4) 2 (by omega)] at z2
        rw [add_field z (i * 4) 3 (by omega)] at z3
        have HC := do_calls HI.out.pair HI.out.st HI.out.gt (by omega) HI.out.few wh f m b f1 f2 m1 m2 hb
        have HCC : Hd _ := ⟨HC⟩
        clear HC f1 f2 m1 m2 hb hz0
        go_wp2_with fail
        refine HCC.out.mono ?_
        rintro e w4 ⟨rfl, s', r', own1', own2', g', c', L', hD⟩
        have HI2 : Hd _ := ⟨HI.out.next hD⟩
        clear hD z0 z1 z2 z3
        go_wp2_with fail
        refine (agree_calls HI2.out.pair.r1 HI2.out.st.wf HI2.out.pair.r2 HI2.out.st.ok HI2.out.st.sim).mono ?_
        rintro e w5 ⟨rfl, hM5⟩
        have HI3 : Hd _ := ⟨HI2.out.same hM5⟩
        clear hM5
        go_wp2_with fail
        go_roundg (gk - 1)
        case measure => omega
        case rel => exact ⟨i + 1, s', r', own1', own2', g', c', L', by go_num, by omega, HI3⟩
      · obtain rfl : i = len := by omega
        obtain ⟨L1, hL1⟩ := HI.out.pair.r1
        have HL1 : Hd _ := ⟨clone_calls hL1 HI.out.st.wf⟩
        clear hL1
        go_wp2_with fail
        refine HL1.out.mono ?_
        rintro e wc ⟨rfl, hn⟩
        have HN : Hd _ := ⟨hn⟩
        obtain ⟨_, _, _, hMn, hltn⟩ := hn
        have HMn : Hd _ := ⟨hMn⟩
        obtain ⟨L2, hL2⟩ := HI.out.pair.r2
        have HCP : Hd _ := ⟨rcopy_calls ((hL2.mod hMn).mod (Mod.drew (fun _ => False) wc)) HI.out.st.ok⟩
        have HLB : Hd (∀ w', Mod (fun _ => False) wc w' → w'.heap[w.heap.size]? = some (.cells #[.int .i64 what, .int .i64 of, .int .i64 n, .int .u64 (y : Int)] 25 (0, 0))) := ⟨fun w' hM => by
          have hM' := (HI.out.mod.trans hMn (fun _ h => h.elim)).trans hM (fun _ h => h.elim)
          exact (hM'.block w.heap.size HB0.out.2 (fun h => h)).trans HB0.out.1⟩
        have hlb := HLB.out wc (Mod.refl _ _)
        have l0 : wc.cell? ⟨w.heap.size, 0, none⟩ = some (.int .i64 what) := by simp [World.cell?, hlb]
        have l1 : wc.cell? ⟨w.heap.size, 1, none⟩ = some (.int .i64 of) := by simp [World.cell?, hlb]
        have l2 : wc.cell? ⟨w.heap.size, 2, none⟩ = some (.int .i64 n) := by simp [World.cell?, hlb]
        have l3 : wc.cell? ⟨w.heap.size, 3, none⟩ = some (.int .u64 (y : Int)) := by simp [World.cell?, hlb]
        clear hL2 hlb hMn hltn hlt
        go_wp2_with fail
        go_region_with (first
          | (go_at_call 14; refine HCP.out.mono ?_; rintro e wd ⟨yy, rfl, hcp⟩; have HCD : Hd _ := ⟨hcp⟩; have HCW : Hd _ := ⟨copied_drew hcp⟩; obtain ⟨ownC, ownR, hPc, hGc, hoC, hoR, hMc⟩ := HI.out.copies HN.out HCW.out; have HPc : Hd _ := ⟨hPc⟩; have HGc : Hd _ := ⟨hGc⟩; have HoC : Hd _ := ⟨hoC⟩; have HoR : Hd _ := ⟨hoR⟩; have HMc : Hd _ := ⟨hMc⟩; have hlb := HLB.out wd (copied_mod HCW.out); have k0 : wd.cell? ⟨w.heap.size, 0, none⟩ = some (.int .i64 what) := (by simp [World.cell?, hlb]); have k1 : wd.cell? ⟨w.heap.size, 1, none⟩ = some (.int .i64 of) := (by simp [World.cell?, hlb]); have k2 : wd.cell? ⟨w.heap.size, 2, none⟩ = some (.int .i64 n) := (by simp [World.cell?, hlb]); have k3 : wd.cell? ⟨w.heap.size, 3, none⟩ = some (.int .u64 (y : Int)) := (by simp [World.cell?, hlb]); clear hlb hcp hPc hGc hoC hoR hMc)
          | (go_at_call 11; refine (do_calls HPc.out HI.out.st HGc.out (by omega) HI.out.few what of n y hof1 hof2 hn1 hn2 hby).mono ?_; rintro e wz ⟨rfl, s2, r2, o1, o2, g2, c2, L2, hD⟩; have HD : Hd _ := ⟨hD⟩; have HBS : Hd _ := ⟨HI.out.beside HMc.out HoC.out HoR.out hD⟩; clear hD)
          | (go_at_call 12; refine (agree_calls HBS.out.1 HI.out.st.wf HBS.out.2.1 HI.out.st.ok HI.out.st.sim).mono ?_; rintro e w9 ⟨rfl, hM9⟩; have HM9 : Hd _ := ⟨hM9⟩; clear hM9))
        all_goals (go_wp2; go_ret; exact ⟨rfl, below_box HW1.out (HBS.out.2.2.trans HM9.out (fun _ h => h.elim))⟩)
end Go.Proofs.Ytpgoogjaoffdoaa
