/- SlabOffs: its walk. -/
import Derived.Test.YtpgoogjaoffdoaaRoom
import Derived.Test.YtpgoogjaoffdoaaOffsS
namespace Go.Proofs.Ytpgoogjaoffdoaa
set_option linter.unusedVariables false
set_option linter.unusedSimpArgs false
open Go.RowKit

structure OI (W : World) (zs : List Nat) (b k : Nat) (og : Option Nat) (c : Nat) (own : Nat → Option Rl) (w : World) : Prop where
  env : E1 W w b (OS 16384 (zs.take k)) own
  lst : Lst W w own 45 1 og k c (encA (adds k))

theorem OI.start {W w : World} {zs : List Nat} {b : Nat} {own : Nat → Option Rl} (h : E1 W w b ⟨16384, 0, 0, [], []⟩ own) : OI W zs b 0 (some w.heap.size) 0 own (w.alloc (.cells #[] 45)) :=
  let h' := RI.start (R := 16384) (n := 0) h
  ⟨by simpa [OS, RS] using h'.env, h'.lst⟩

theorem OI.step {W w w' : World} {zs : List Nat} {b k g c g' c' : Nat} {own : Nat → Option Rl} {o : Obj} (hE : E1 W w b (OS 16384 (zs.take (k + 1))) own) (hL : Lst W w own 45 1 (some g) k c (encA (adds k)))
    (hS : Sl w' 45 1 (some g') (k + 1) c' (encA (adds k) ++ [.int .u64 (addrOf k 0 0 : Nat)])) (hor : some g' = some g ∨ (w.alloc o).heap.size ≤ g') (hM : Mod (fun k => some k = some g) (w.alloc o) w') :
    OI W zs b (k + 1) (some g') c' own w' := by
  have hE' := hE.mod (Mod.alloc (fun _ => False) w o) (fun k hk => hk.elim)
  have hL' : Lst W (w.alloc o) own 45 1 (some g) k c (encA (adds k)) := ⟨hL.sl.alloc o, hL.mine⟩
  obtain ⟨h1, h2⟩ := hE'.append hL' hS hor hM
  exact ⟨h1, by rw [adds_succ]; exact h2⟩

theorem OI.got {zs : List Nat} {k : Nat} {z : Nat} (hz : zs[k]? = some z) (h : ∀ z ∈ zs, 1 ≤ z ∧ z ≤ 256) (hl : zs.length ≤ 40) : (OS 16384 (zs.take k)).get z = ((addrOf k 0 0, 0), OS 16384 (zs.take (k + 1))) := by
  have hk := (List.getElem?_eq_some_iff.1 hz).1
  have hm := h z (List.mem_of_getElem? hz)
  have hs := sum_le_of (zs.take k) 256 (fun z hh => (h z (List.mem_of_mem_take hh)).2)
  have hll : (zs.take k).length = k := by rw [List.length_take]; omega
  rw [hll] at hs
  have := OS_get 16384 (zs.take k) z hm.1 (by omega) (by omega)
  rw [hll] at this
  rw [this, List.take_add_one, hz]
  rfl

set_option maxRecDepth 100000 in
set_option maxHeartbeats 4000000 in
/-- A row of sizes that is none. -/
theorem offs_out (ad : Option Addr) (len cap F : Nat) (u v : Int) (h : len < 1 ∨ 40 < len ∨ u < 0 ∨ 300 < u ∨ v < -600 ∨ 600 < v) (w : World) :
    Calls Try.prog 7 #[.slice ad len cap, .int .u8 F, .int .i64 u, .int .i64 v] w fun e w' => e = .returned (.bool true) ∧ Below w.heap.size w w' := by
  by_cases h1 : len < 1
  · clear h
    go_enter Try.func7, Try.ntmps7
    go_wp2_with (refine (alive_calls w).mono ?_; rintro e w1 ⟨rfl, hB⟩; have HB : Hd _ := ⟨hB⟩; clear hB)
    go_ret
    exact ⟨rfl, HB.out⟩
  by_cases h2 : 40 < len
  · clear h
    go_enter Try.func7, Try.ntmps7
    go_wp2_with (refine (alive_calls w).mono ?_; rintro e w1 ⟨rfl, hB⟩; have HB : Hd _ := ⟨hB⟩; clear hB)
    go_ret
    exact ⟨rfl, HB.out⟩
  by_cases h3 : u < 0
  · clear h
    go_enter Try.func7, Try.ntmps7
    go_wp2_with (refine (alive_calls w).mono ?_; rintro e w1 ⟨rfl, hB⟩; have HB : Hd _ := ⟨hB⟩; clear hB)
    go_ret
    exact ⟨rfl, HB.out⟩
  by_cases h4 : 300 < u
  · clear h
    go_enter Try.func7, Try.ntmps7
    go_wp2_with (refine (alive_calls w).mono ?_; rintro e w1 ⟨rfl, hB⟩; have HB : Hd _ := ⟨hB⟩; clear hB)
    go_ret
    exact ⟨rfl, HB.out⟩
  by_cases h5 : v < -600
  · clear h
    go_enter Try.func7, Try.ntmps7
    go_wp2_with (refine (alive_calls w).mono ?_; rintro e w1 ⟨rfl, hB⟩; have HB : Hd _ := ⟨hB⟩; clear hB)
    go_ret
    exact ⟨rfl, HB.out⟩
  have h6 : 600 < v := by omega
  clear h
  go_enter Try.func7, Try.ntmps7
  go_wp2_with (refine (alive_calls w).mono ?_; rintro e w1 ⟨rfl, hB⟩; have HB : Hd _ := ⟨hB⟩; clear hB)
  go_ret
  exact ⟨rfl, HB.out⟩

set_option maxRecDepth 100000 in
set_option maxHeartbeats 4000000 in
theorem offs_walk (x : Addr) (len cap F : Nat) (u v : Int) (zs : List Nat) (w : World) (hF : F < 256) (h1 : 1 ≤ len) (h2 : len ≤ 40) (h3 : 0 ≤ u) (h4 : u ≤ 300) (h5 : -600 ≤ v) (h6 : v ≤ 600)
    (hlen : zs.length = len) (hcap : len ≤ cap) (hmax : cap ≤ maxLen) (hz : ∀ z ∈ zs, 1 ≤ z ∧ z ≤ 256) (hc : ∀ (i : Nat) (z : Nat), zs[i]? = some z → w.cell? (x.add i) = some (.int .u8 ((z : Int) - 1))) :
    Calls Try.prog 7 #[.slice (some x) len cap, .int .u8 F, .int .i64 u, .int .i64 v] w fun e w' => e = .returned (.bool true) ∧ Below w.heap.size w w' := by
  have HC : Hd _ := ⟨hc⟩
  have hxb : x.block < w.heap.size := by
    have := World.block_lt_of_cell? w _ (hc 0 _ (List.getElem?_eq_getElem (by omega)))
    rwa [add_block] at this
  clear hc
  go_enter Try.func7, Try.ntmps7
  go_wp2_with fail
  refine (alive_calls w).mono ?_
  rintro e w1 ⟨rfl, hB⟩
  have HB : Hd _ := ⟨hB⟩
  clear hB
  go_wp2_with fail
  refine (new1 (W := w) _ (by omega) (by omega) _ HB.out).mono ?_
  rintro e w2 ⟨rfl, own2, hE, _⟩
  have HI : Hd (OI w zs w1.heap.size 0 (some w2.heap.size) 0 own2 (w2.alloc (.cells #[] 45))) := ⟨OI.start hE⟩
  clear hE HB
  go_wp2_with fail
  go_loopg [11, 12] len (fun gk v11 v12 wr => ∃ (k g c : Nat) (own : Nat → Option Rl), v11 = .slice (some ⟨g, 0, none⟩) k c ∧ v12 = .int .i64 k ∧ k + gk = len ∧ Hd (OI w zs w1.heap.size k (some g) c own wr))
  case atStart => exact ⟨0, _, 0, _, rfl, rfl, by omega, HI⟩
  case round =>
    clear HI
    obtain ⟨k, g, c, own, rfl, rfl, hk, HI⟩ := hrel
    by_cases hlt : k < len
    · obtain ⟨z, hzk⟩ : ∃ z, zs[k]? = some z := ⟨_, List.getElem?_eq_getElem (by omega)⟩
      have hc := (HI.out.env.below.cell (p := x.add k) (by rw [add_block]; exact hxb)).trans (HC.out k z hzk)
      have hzb := hz z (List.mem_of_getElem? hzk)
      have HZ : Hd _ := ⟨hzk⟩
      have HZZ : Hd _ := ⟨hz⟩
      clear hzk hz
      go_wp2_with fail
      refine (HI.out.env.get_c (OS_WF zs HZZ.out (by omega) k (by omega)) z (OI.got HZ.out HZZ.out (by omega))).mono ?_
      rintro e w3 ⟨rfl, own3, hE3, hA3⟩
      have hL3 := HI.out.lst.aft hA3
      have HE3 : Hd _ := ⟨hE3⟩
      have HL3 : Hd _ := ⟨hL3⟩
      clear hE3 hA3 hL3 HI hc
      obtain ⟨i0, hi, hz0, hz1, hz2⟩ := info_parts Try.info45
      go_wp2_with (at_builtin; refine wpList_append_sl _ rfl (.tmp 77) (.tmp 79) 44 rfl 45 i0 (.int .u64 0) 1 8 Try.underlying44 hi hz0 hz1 hz2 rfl (by decide) (some g) k c (encA (adds k)) rfl (HL3.out.sl.alloc _) ⟨w3.heap.size, 0, none⟩ 1 1 [.int .u64 (addrOf k 0 0 : Nat)] rfl rfl ?k1 ?k2 (by decide) ?b1 ?b2 ?grow)
      case k1 => exact one_cell _ rfl
      case k2 => intro u hu; simp at hu; subst hu; rfl
      case b1 => unfold maxLen; omega
      case b2 => omega
      case grow =>
        intro g' c' w4 hS4 hor hM
        have HX : Hd _ := ⟨OI.step (o := .cells #[.int .u64 (addrOf k 0 0 : Nat)] 45) HE3.out HL3.out hS4 (by simpa using hor) (by simpa using hM)⟩
        clear hS4 hor hM HE3 HL3
        go_wp2_with fail
        go_roundg (gk - 1)
        case measure => omega
        case rel => exact ⟨k + 1, g', c', own3, by go_num, by go_num, by omega, HX⟩
    · have hkl : k = len := by omega
      subst hkl
      have HZZ : Hd _ := ⟨hz⟩
      clear hz
      obtain ⟨j, hj1, hj2, hj⟩ : ∃ j : Nat, (F : Int) % (k : Int) = (j : Int) ∧ (F : Int).tmod (k : Int) = (j : Int) ∧ j < k := ⟨F % k, by omega, by rw [← Int.ofNat_tmod], Nat.mod_lt _ (by omega)⟩
      obtain ⟨z, hzk⟩ : ∃ z, zs[j]? = some z := ⟨_, List.getElem?_eq_getElem (by omega)⟩
      have hzb := HZZ.out z (List.mem_of_getElem? hzk)
      have hc := (HI.out.env.below.cell (p := x.add j) (by rw [add_block]; exact hxb)).trans (HC.out j z hzk)
      have hE := HI.out.env
      rw [← hlen, List.take_length] at hE
      have hW := OS_WF zs HZZ.out (by omega) zs.length (Nat.le_refl _)
      rw [List.take_length] at hW
      have HE : Hd _ := ⟨hE⟩
      have HL : Hd _ := ⟨HI.out.lst⟩
      have HWW : Hd _ := ⟨hW⟩
      have HZ : Hd _ := ⟨hzk⟩
      have hl40 : zs.length ≤ 40 := by omega
      clear hE hW hzk HI
      obtain ⟨a0, ha0⟩ : ∃ a0, a0 = addrOf j 0 0 := ⟨_, rfl⟩
      have hlt : a0 < 18446744073709551616 := by subst ha0; unfold addrOf; omega
      have hc0 : wr.cell? ⟨g, j, none⟩ = some (.int .u64 (a0 : Int)) := by rw [ha0]; exact HL.out.sl.cell rfl (adds_get k j hj)
      have hcap2 := HL.out.sl.le
      have HA0 : Hd _ := ⟨ha0⟩
      clear ha0
      obtain ⟨U, rfl⟩ := Int.eq_ofNat_of_zero_le h3
      by_cases hU : U < z
      · obtain ⟨a1, ha1⟩ : ∃ a1, a1 = addrOf j 0 U := ⟨_, rfl⟩
        have ho1 : (OS 16384 zs).off a0 U = (a1, 0) := by rw [HA0.out, ha1]; exact OS_off_yes zs j 0 z U U HZ.out hl40 (by omega) (by omega) (by omega) hU
        have hlt1 : a1 < 18446744073709551616 := by subst ha1; unfold addrOf; omega
        have HA1 : Hd _ := ⟨ha1⟩
        have HO1 : Hd _ := ⟨ho1⟩
        clear ha1 ho1
        by_cases hV : 0 ≤ (U : Int) + v ∧ (U : Int) + v < z
        · obtain ⟨hV1, hV2⟩ := hV
          obtain ⟨G, hG⟩ := Int.eq_ofNat_of_zero_le hV1
          obtain ⟨a2, ha2⟩ : ∃ a2, a2 = addrOf j 0 G := ⟨_, rfl⟩
          have ho2 : (OS 16384 zs).off a1 v = (a2, 0) := by rw [HA1.out, ha2]; exact OS_off_yes zs j U z v G HZ.out hl40 (by omega) (by omega) hG (by omega)
          have ho3 : (OS 16384 zs).off a2 (-v) = (a1, 0) := by rw [HA1.out, ha2]; exact OS_off_yes zs j G z (-v) U HZ.out hl40 (by omega) (by omega) (by omega) hU
          have hs : (OS 16384 zs).size a2 = (z, 0) := by rw [ha2]; exact OS_size zs j G z HZ.out hl40 (by omega) (by omega)
          have hlt2 : a2 < 18446744073709551616 := by subst ha2; unfold addrOf; omega
          have hsum : a2 = a0 + G := by rw [ha2, HA0.out]; unfold addrOf; omega
          have hsm : IntKind.u64.wrap ((a0 : Int) + ((U : Int) + v)) = (a2 : Int) := by rw [hG, hsum]; simp [IntKind.wrap, IntKind.bits, IntKind.signed]; omega
          have HO2 : Hd _ := ⟨ho2⟩
          have HO3 : Hd _ := ⟨ho3⟩
          have HS : Hd _ := ⟨hs⟩
          clear ha2 ho2 ho3 hs hsum hG
          go_wp2_with fail
          refine (HE.out.off_c HWW.out a0 hlt U HO1.out).mono ?_
          rintro e w3 ⟨rfl, rfl⟩
          go_wp2_with fail
          refine (HE.out.off_c HWW.out a1 hlt1 v HO2.out).mono ?_
          rintro e w3 ⟨rfl, rfl⟩
          go_wp2_with fail
          refine (HE.out.off_c HWW.out a2 hlt2 (-v) HO3.out).mono ?_
          rintro e w3 ⟨rfl, rfl⟩
          go_wp2_with fail
          refine (HE.out.size_c HWW.out a2 hlt2 HS.out).mono ?_
          rintro e w3 ⟨rfl, rfl⟩
          go_wp2
          go_ret
          exact ⟨rfl, HE.out.below⟩
        · have ho2 : (OS 16384 zs).off a1 v = (0, 11) := by rw [HA1.out]; exact OS_off_no zs j U z v HZ.out hl40 (by omega) (by omega) (by omega)
          have HO2 : Hd _ := ⟨ho2⟩
          clear ho2
          by_cases hV1 : (U : Int) + v < 0
          · clear hV
            go_wp2_with fail
            refine (HE.out.off_c HWW.out a0 hlt U HO1.out).mono ?_
            rintro e w3 ⟨rfl, rfl⟩
            go_wp2_with fail
            refine (HE.out.off_c HWW.out a1 hlt1 v HO2.out).mono ?_
            rintro e w3 ⟨rfl, rfl⟩
            go_wp2
            go_ret
            exact ⟨rfl, HE.out.below⟩
          · have hV2 : (z : Int) ≤ (U : Int) + v := by omega
            clear hV
            go_wp2_with fail
            refine (HE.out.off_c HWW.out a0 hlt U HO1.out).mono ?_
            rintro e w3 ⟨rfl, rfl⟩
            go_wp2_with fail
            refine (HE.out.off_c HWW.out a1 hlt1 v HO2.out).mono ?_
            rintro e w3 ⟨rfl, rfl⟩
            go_wp2
            go_ret
            exact ⟨rfl, HE.out.below⟩
      · have ho1 : (OS 16384 zs).off a0 U = (0, 11) := by rw [HA0.out]; exact OS_off_no zs j 0 z U HZ.out hl40 (by omega) (by omega) (by omega)
        have HO1 : Hd _ := ⟨ho1⟩
        clear ho1
        go_wp2_with fail
        refine (HE.out.off_c HWW.out a0 hlt U HO1.out).mono ?_
        rintro e w3 ⟨rfl, rfl⟩
        go_wp2
        go_ret
        exact ⟨rfl, HE.out.below⟩
end Go.Proofs.Ytpgoogjaoffdoaa
