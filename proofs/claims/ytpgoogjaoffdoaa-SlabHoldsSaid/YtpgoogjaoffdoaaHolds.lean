/- SlabHolds: its walk. -/
import Derived.Test.YtpgoogjaoffdoaaRoom
import Derived.Test.YtpgoogjaoffdoaaHoldsS
import Derived.Test.YtpgoogjaoffdoaaMap
import Derived.Test.YtpgoogjaoffdoaaOnce
namespace Go.Proofs.Ytpgoogjaoffdoaa
set_option linter.unusedVariables false
set_option linter.unusedSimpArgs false
open Go.RowKit

theorem Try.zero2 (w : World) : (zeroValue 2).run Try.prog w = .ok (.int .i64 0) w := by kernel_rfl

/-- What the map says of slot k of these cells. -/
def said (cs : List (Int × Bool)) (k : Nat) : Option Value := match cs[k]? with | some (v, true) => some (.int .i64 v) | _ => none

structure HI (W : World) (n b r : Nat) (cs : List (Int × Bool)) (f : Int → Option Value) (own : Nat → Option Rl) (w : World) : Prop where
  env : E1 W w b (HS n cs) own
  wf : (HS n cs).WF 2
  len : cs.length = n
  mp : Mp w r .i64 f
  mine : own r = none ∧ W.heap.size ≤ r
  rel : ∀ k : Nat, k < n → f k = said cs k

theorem HI.start {W w : World} {n b : Nat} {own : Nat → Option Rl} (hE : E1 W w b (HS n (List.replicate n (0, false))) own) (hw : (HS n (List.replicate n (0, false))).WF 2) :
    HI W n b w.heap.size (List.replicate n (0, false)) (fun _ => none) own (w.alloc (.map #[] 0)) := by
  refine ⟨hE.mod (Mod.alloc (fun _ => False) w _) (fun k hk => hk.elim), hw, by simp, Mp.start w .i64, hE.new_own (Nat.le_refl _), fun k hk => ?_⟩
  simp [said, List.getElem?_replicate, hk]

theorem HI.set {W w w1 w2 : World} {n b r kk : Nat} {cs : List (Int × Bool)} {f : Int → Option Value} {own : Nat → Option Rl} (h : HI W n b r cs f own w) (hkk : kk < n) (hn : n ≤ 100) (c : Int × Bool)
    (hE : E1 W w1 b (HS n (cs.set kk c)) own) (hM : Mod (fun j => j = r) w1 w2) (hmp : Mp w2 r .i64 (fun m => if m = (kk : Int) then (if c.2 then some (.int .i64 c.1) else none) else f m)) :
    HI W n b r (cs.set kk c) (fun m => if m = (kk : Int) then (if c.2 then some (.int .i64 c.1) else none) else f m) own w2 := by
  refine ⟨hE.mod hM (fun k hk => hk ▸ h.mine), ?_, by simpa using h.len, hmp, h.mine, fun k hk => ?_⟩
  · have := WF.set h.wf (addrOf 1 0 kk) c
    rw [HS_set n kk cs c hkk hn] at this
    exact this
  · have hl := h.len
    by_cases e : k = kk
    · subst e
      rw [if_pos rfl]
      obtain ⟨v, b⟩ := c
      have : (cs.set k (v, b))[k]? = some (v, b) := List.getElem?_set_self (by omega)
      cases b <;> simp [said, this]
    · have hne : ¬ ((k : Int) = (kk : Int)) := by omega
      simp only [hne, if_false]
      rw [h.rel k hk]
      simp only [said]
      rw [List.getElem?_set_ne (Ne.symm e)]

set_option maxRecDepth 100000 in
set_option maxHeartbeats 4000000 in
theorem holds_out (ad : Option Addr) (len cap : Nat) (n v : Int) (h : n < 1 ∨ 100 < n ∨ 100 < len) (w : World) :
    Calls Try.prog 5 #[.int .i64 n, .slice ad len cap, .int .i64 v] w fun e w' => e = .returned (.bool true) ∧ Below w.heap.size w w' := by
  by_cases h1 : n < 1
  · clear h
    go_enter Try.func5, Try.ntmps5
    go_wp2_with (refine (alive_calls w).mono ?_; rintro e w1 ⟨rfl, hB⟩; have HB : Hd _ := ⟨hB⟩; clear hB)
    go_ret
    exact ⟨rfl, HB.out⟩
  by_cases h2 : 100 < n
  · clear h
    go_enter Try.func5, Try.ntmps5
    go_wp2_with (refine (alive_calls w).mono ?_; rintro e w1 ⟨rfl, hB⟩; have HB : Hd _ := ⟨hB⟩; clear hB)
    go_ret
    exact ⟨rfl, HB.out⟩
  have h6 : 100 < len := by omega
  clear h
  go_enter Try.func5, Try.ntmps5
  go_wp2_with (refine (alive_calls w).mono ?_; rintro e w1 ⟨rfl, hB⟩; have HB : Hd _ := ⟨hB⟩; clear hB)
  go_ret
  exact ⟨rfl, HB.out⟩

set_option maxRecDepth 100000 in
set_option maxHeartbeats 4000000 in
theorem holds_walk (n : Nat) (oa : Option Addr) (len cap : Nat) (v : Int) (zs : List Int) (w : World) (h1 : 1 ≤ n) (h2 : n ≤ 100) (h3 : len ≤ 100) (ha : Arg w .u16 oa len cap zs) (hz : ∀ z ∈ zs, 0 ≤ z ∧ z < 65536) :
    Calls Try.prog 5 #[.int .i64 n, .slice oa len cap, .int .i64 v] w fun e w' => e = .returned (.bool true) ∧ Below w.heap.size w w' := by
  have HC : Hd _ := ⟨ha⟩
  have HZZ : Hd _ := ⟨hz⟩
  have hcap := ha.hle
  have hmax := ha.hmax
  obtain ⟨wf0, wf1, wf2⟩ := HS_WF n h1 h2
  have HW0 : Hd _ := ⟨wf0⟩
  have HW1 : Hd _ := ⟨wf1⟩
  have HW2 : Hd _ := ⟨wf2⟩
  clear ha hz wf0 wf1 wf2
  have hmm := @run_makeMap Try.prog
  go_enter Try.func5, Try.ntmps5
  go_wp2_with fail
  refine (alive_calls w).mono ?_
  rintro e w1 ⟨rfl, hB⟩
  have HB : Hd _ := ⟨hB⟩
  clear hB
  go_wp2_with fail
  refine (new1 (W := w) _ (by omega) (by omega) _ HB.out).mono ?_
  rintro e w2 ⟨rfl, own2, hE, _⟩
  have HE2 : Hd (E1 w w2 w1.heap.size (OS (n + 5) []) own2) := ⟨by rw [show ((n : Int) + 5).toNat = n + 5 by omega] at hE; exact hE⟩
  clear hE HB
  go_wp2_with fail
  refine (HE2.out.get_c HW0.out 5 (HS_get5 n)).mono ?_
  rintro e w3 ⟨rfl, own3, hE, _⟩
  have HE3 : Hd _ := ⟨hE⟩
  clear hE HE2
  go_wp2_with fail
  refine (HE3.out.get_c HW1.out n (HS_getn n h1 (by omega))).mono ?_
  rintro e w4 ⟨rfl, own4, hE, _⟩
  have HI0 : Hd _ := ⟨HI.start hE HW2.out⟩
  clear hE HE3 HW0 HW1 HW2
  go_wp2_with fail
  go_loopg [14] len (fun gk v14 wr => ∃ (k : Nat) (cs : List (Int × Bool)) (f : Int → Option Value), v14 = .int .i64 k ∧ k + gk = len ∧ Hd (HI w n w1.heap.size w4.heap.size cs f own4 wr))
  case atStart => exact ⟨0, _, _, rfl, by omega, HI0⟩
  case round =>
    clear HI0
    obtain ⟨k, cs, f, rfl, hk, HI⟩ := hrel
    by_cases hlt : k < len
    · obtain ⟨x, zI, rfl, hzI, hc⟩ := HC.out.at HI.out.env.below k hlt
      have hzb := HZZ.out zI hzI
      obtain ⟨z, rfl⟩ := Int.eq_ofNat_of_zero_le hzb.1
      have hzb2 : z < 65536 := by omega
      clear hzI hzb
      obtain ⟨kk, hkk, hkl⟩ : ∃ kk : Nat, (z : Int) / 2 % (n : Int) = (kk : Int) ∧ kk < n := ⟨z / 2 % n, by rw [Int.natCast_emod, Int.natCast_ediv]; rfl, Nat.mod_lt _ h1⟩
      have hlen2 := HI.out.len
      obtain ⟨a1, ha1⟩ : ∃ a1, a1 = addrOf 1 0 kk := ⟨_, rfl⟩
      have hlt1 : a1 < 18446744073709551616 := by subst ha1; unfold addrOf; omega
      have HOFF : Hd ((HS n cs).off (addrOf 1 0 0) kk = (a1, 0)) := ⟨by rw [ha1]; exact HS_off n kk cs hlen2 hkl h2⟩
      have HSET : Hd (∀ c, (HS n cs).set a1 c = (0, HS n (cs.set kk c))) := ⟨fun c => by rw [ha1]; exact HS_set n kk cs c hkl h2⟩
      clear ha1 hlen2
      go_wp2_with fail
      refine (HI.out.env.off_c HI.out.wf (addrOf 1 0 0) (by unfold addrOf; omega) kk HOFF.out).mono ?_
      rintro e0 w5 ⟨rfl, rfl⟩
      by_cases hp : z % 2 = 0
      · have hp1 : (z : Int) % 2 = 0 := by omega
        clear hp
        go_wp2_with fail
        refine (HI.out.env.store_c HI.out.wf a1 hlt1 (wrap64 (v + (k : Int))) (HSET.out _)).mono ?_
        rintro e0 w6 ⟨rfl, hE6, hA6⟩
        have hmk := hA6.keep w4.heap.size HI.out.mp.lt HI.out.mine.1
        obtain ⟨w7, hmu, hmp7, hmod7⟩ := (HI.out.mp.keep hmk.1).update (P := Try.prog) Try.underlying55 Try.underlying3 (kk : Int) (.int .i64 (wrap64 (v + (k : Int))))
        have HX : Hd _ := ⟨HI.out.set hkl h2 (wrap64 (v + (k : Int)), true) hE6 hmod7 (by simpa using hmp7)⟩
        clear hE6 hA6 hmk hmp7 hmod7 HI
        go_wp2_with fail
        go_roundg (gk - 1)
        case measure => omega
        case rel => exact ⟨k + 1, _, _, by go_num, by omega, HX⟩
      · have hp1 : (z : Int) % 2 = 1 := by omega
        clear hp
        go_wp2_with fail
        refine (HI.out.env.blank_c HI.out.wf a1 hlt1 (HSET.out _)).mono ?_
        rintro e0 w6 ⟨rfl, hE6, hA6⟩
        have hmk := hA6.keep w4.heap.size HI.out.mp.lt HI.out.mine.1
        obtain ⟨w7, hmu, hmp7, hmod7⟩ := (HI.out.mp.keep hmk.1).delete (P := Try.prog) (ty := 0) Try.underlying55 Try.underlying3 (kk : Int)
        have HX : Hd _ := ⟨HI.out.set hkl h2 (0, false) hE6 hmod7 (by simpa using hmp7)⟩
        clear hE6 hA6 hmk hmp7 hmod7 HI
        go_wp2_with fail
        go_roundg (gk - 1)
        case measure => omega
        case rel => exact ⟨k + 1, _, _, by go_num, by omega, HX⟩
    · clear HC HZZ
      go_wp2_with fail
      go_loopg [18] n (fun gk v18 wx => wr = wx ∧ ∃ m : Nat, v18 = .int .i64 m ∧ m + gk = n)
      case atStart => exact ⟨rfl, 0, rfl, by omega⟩
      case round =>
        obtain ⟨rfl, m, rfl, hm⟩ := hrel
        by_cases hml : m < n
        · have hlen2 := HI.out.len
          obtain ⟨cv, cb, hcm⟩ : ∃ cv cb, cs[m]? = some (cv, cb) := ⟨_, _, List.getElem?_eq_getElem (by omega)⟩
          obtain ⟨a1, ha1⟩ : ∃ a1, a1 = addrOf 1 0 m := ⟨_, rfl⟩
          have hlt1 : a1 < 18446744073709551616 := by subst ha1; unfold addrOf; omega
          have HOFF : Hd ((HS n cs).off (addrOf 1 0 0) m = (a1, 0)) := ⟨by rw [ha1]; exact HS_off n m cs hlen2 hml h2⟩
          clear hlen2
          cases cb with
          | true =>
            have hld : (HS n cs).load a1 = (cv, 0) := by
              rw [ha1, HS_load n m cs hml h2 cv true hcm]; rfl
            have hsd : f (m : Int) = some (.int .i64 cv) := by rw [HI.out.rel m hml]; simp [said, hcm]
            have hlk := HI.out.mp.lookup (P := Try.prog) Try.underlying55 Try.underlying3 (Try.zero2 wr) (m : Int) true
            rw [hsd] at hlk
            simp only [if_true, Option.getD_some, Option.getD_none, Option.isSome_some, Option.isSome_none] at hlk
            have HLD : Hd _ := ⟨hld⟩
            clear hld hsd ha1 hcm
            go_wp2_with fail
            refine (HI.out.env.off_c HI.out.wf (addrOf 1 0 0) (by unfold addrOf; omega) m HOFF.out).mono ?_
            rintro e0 w5 ⟨rfl, rfl⟩
            go_wp2_with fail
            refine (HI.out.env.load_c HI.out.wf a1 hlt1 HLD.out).mono ?_
            rintro e0 w5 ⟨rfl, rfl⟩
            go_wp2_with fail
            go_roundg (gk - 1)
            case measure => omega
            case rel => exact ⟨rfl, m + 1, by go_num, by omega⟩
          | false =>
            have hld : (HS n cs).load a1 = (0, 15) := by
              rw [ha1, HS_load n m cs hml h2 cv false hcm]; rfl
            have hsd : f (m : Int) = none := by rw [HI.out.rel m hml]; simp [said, hcm]
            have hlk := HI.out.mp.lookup (P := Try.prog) Try.underlying55 Try.underlying3 (Try.zero2 wr) (m : Int) true
            rw [hsd] at hlk
            simp only [if_true, Option.getD_some, Option.getD_none, Option.isSome_some, Option.isSome_none] at hlk
            have HLD : Hd _ := ⟨hld⟩
            clear hld hsd ha1 hcm
            go_wp2_with fail
            refine (HI.out.env.off_c HI.out.wf (addrOf 1 0 0) (by unfold addrOf; omega) m HOFF.out).mono ?_
            rintro e0 w5 ⟨rfl, rfl⟩
            go_wp2_with fail
            refine (HI.out.env.load_c HI.out.wf a1 hlt1 HLD.out).mono ?_
            rintro e0 w5 ⟨rfl, rfl⟩
            go_wp2_with fail
            go_roundg (gk - 1)
            case measure => omega
            case rel => exact ⟨rfl, m + 1, by go_num, by omega⟩
        · go_wp2_with fail
          refine (HI.out.env.load_c HI.out.wf (addrOf 0 0 0) (by unfold addrOf; omega) (HS_other n cs)).mono ?_
          rintro e0 w5 ⟨rfl, rfl⟩
          go_wp2
          go_ret
          exact ⟨rfl, HI.out.env.below⟩
end Go.Proofs.Ytpgoogjaoffdoaa
