/- SlabRoom: its walk. -/
import Derived.Test.YtpgoogjaoffdoaaLaw
import Derived.Test.YtpgoogjaoffdoaaRoomS
namespace Go.Proofs.Ytpgoogjaoffdoaa
set_option linter.unusedVariables false
set_option linter.unusedSimpArgs false
open Go.RowKit

def encA (l : List Nat) : List Value := l.map fun (a : Nat) => Value.int .u64 (a : Int)
def adds (k : Nat) : List Nat := (List.range k).map fun i => addrOf i 0 0
theorem adds_succ (k : Nat) : encA (adds (k + 1)) = encA (adds k) ++ [Value.int .u64 (addrOf k 0 0 : Nat)] := by simp [adds, encA, List.range_succ]
theorem adds_get (k j : Nat) (h : j < k) : (encA (adds k))[j]? = some (Value.int .u64 (addrOf j 0 0 : Nat)) := by simp [adds, encA, h]

structure RI (W : World) (R n b k : Nat) (og : Option Nat) (c : Nat) (own : Nat → Option Rl) (w : World) : Prop where
  env : E1 W w b (RS R n k) own
  lst : Lst W w own 45 1 og k c (encA (adds k))
  fits : k * n ≤ R

theorem Try.info45 : (Try.prog.info? 45).map (fun i => (i.zero, i.size, i.bytes)) = some (some (.int .u64 0), 1, 8) := by kernel_rfl

theorem RI.start {W w : World} {R n b : Nat} {own : Nat → Option Rl} (h : E1 W w b ⟨R, 0, 0, [], []⟩ own) : RI W R n b 0 (some w.heap.size) 0 own (w.alloc (.cells #[] 45)) := by
  obtain ⟨h1, h2⟩ := h.new_own (Nat.le_refl _)
  refine ⟨by simpa [RS] using h.mod (Mod.alloc (fun _ => False) w (.cells #[] 45)) (fun k hk => hk.elim), ⟨⟨by simp [adds, encA], Nat.le_refl _, Nat.zero_le _, fun h => by (cases h), ?_⟩, ?_⟩, by simp⟩
  · intro g hg
    obtain rfl := Option.some.inj hg
    exact ⟨#[], heap_alloc_new w _, by simp, by simp [adds, encA]⟩
  · intro g hg
    obtain rfl := Option.some.inj hg
    exact ⟨h1, h2⟩

theorem add_block (x : Addr) (k : Nat) : (x.add k).block = x.block := by unfold Addr.add; split <;> rfl

/-- Behind one more piece, and its address at the row's end. -/
theorem RI.step {W w w' : World} {R n b k g c g' c' : Nat} {own : Nat → Option Rl} {o : Obj} (hE : E1 W w b (RS R n (k + 1)) own) (hL : Lst W w own 45 1 (some g) k c (encA (adds k))) (hf : k * n + n ≤ R)
    (hS : Sl w' 45 1 (some g') (k + 1) c' (encA (adds k) ++ [.int .u64 (addrOf k 0 0 : Nat)])) (hor : some g' = some g ∨ (w.alloc o).heap.size ≤ g') (hM : Mod (fun k => some k = some g) (w.alloc o) w') :
    RI W R n b (k + 1) (some g') c' own w' := by
  have hE' := hE.mod (Mod.alloc (fun _ => False) w o) (fun k hk => hk.elim)
  have hL' : Lst W (w.alloc o) own 45 1 (some g) k c (encA (adds k)) := ⟨hL.sl.alloc o, hL.mine⟩
  obtain ⟨h1, h2⟩ := hE'.append hL' hS hor hM
  exact ⟨h1, by rw [adds_succ]; exact h2, by rw [Nat.add_mul, Nat.one_mul]; exact hf⟩

theorem one_cell {w : World} {u : Value} {t : TypeId} (r : Nat) (hr : r = w.heap.size) : ∀ j v, [u][j]? = some v → (w.alloc (.cells #[u] t)).cell? ((⟨r, 0, none⟩ : Addr).add j) = some v := by
  intro j v hj
  subst hr
  rw [Addr.add_lit]
  match j, hj with
  | 0, hj => simp at hj; subst hj; exact World.cell?_alloc_new _ _ _ _
  | j + 1, hj => simp at hj

set_option maxRecDepth 100000 in
set_option maxHeartbeats 4000000 in
theorem room_walk (R S F : Nat) (hR : R < 256) (hS : S < 256) (hF : F < 256) (w : World) :
    Calls Try.prog 6 #[.int .u8 R, .int .u8 S, .int .u8 F] w fun e w' => e = .returned (.bool true) ∧ Below w.heap.size w w' := by
  go_enter Try.func6, Try.ntmps6
  go_wp2_with fail
  refine (alive_calls w).mono ?_
  rintro e w1 ⟨rfl, hB⟩
  have HB : Hd _ := ⟨hB⟩
  clear hB
  go_wp2_with fail
  refine (new1 (W := w) _ (by omega) (by omega) _ HB.out).mono ?_
  rintro e w2 ⟨rfl, own2, hE, _⟩
  rw [Int.toNat_natCast] at hE
  obtain ⟨n, hn, hnv, hn1, hn2⟩ : ∃ n : Nat, (S : Int) % 20 + 1 = (n : Int) ∧ n = S % 20 + 1 ∧ 1 ≤ n ∧ n ≤ 20 := ⟨S % 20 + 1, by omega, rfl, by omega, by omega⟩
  have HI : Hd (RI w R n w1.heap.size 0 (some w2.heap.size) 0 own2 (w2.alloc (.cells #[] 45))) := ⟨RI.start hE⟩
  clear hE HB hnv
  go_wp2_with fail
  go_loopg [10] R (fun gk v wr => ∃ (k g c : Nat) (own : Nat → Option Rl), v = .slice (some ⟨g, 0, none⟩) k c ∧ k + gk = R ∧ Hd (RI w R n w1.heap.size k (some g) c own wr))
  case atStart => exact ⟨0, _, 0, _, rfl, by omega, HI⟩
  case round =>
    clear HI
    obtain ⟨k, g, c, own, rfl, hk, HI⟩ := hrel
    by_cases hroom : k * n + n ≤ R
    · have hkn : k ≤ k * n := Nat.le_mul_of_pos_right k hn1
      go_wp2_with fail
      refine (HI.out.env.get_c (RS_WF R n (by omega) hn1 (by omega) k HI.out.fits) n (RS_get_yes R n k hn1 (by omega) hroom)).mono ?_
      rintro e w3 ⟨rfl, own3, hE3, hA3⟩
      have hL3 := HI.out.lst.aft hA3
      have HE3 : Hd _ := ⟨hE3⟩
      have HL3 : Hd _ := ⟨hL3⟩
      clear hE3 hA3 hL3 HI
      obtain ⟨i0, hi, hz0, hz1, hz2⟩ := info_parts Try.info45
      go_wp2_with (at_builtin; refine wpList_append_sl _ rfl (.tmp 51) (.tmp 53) 44 rfl 45 i0 (.int .u64 0) 1 8 Try.underlying44 hi hz0 hz1 hz2 rfl (by decide) (some g) k c (encA (adds k)) rfl (HL3.out.sl.alloc _) ⟨w3.heap.size, 0, none⟩ 1 1 [.int .u64 (addrOf k 0 0 : Nat)] rfl rfl ?k1 ?k2 (by decide) ?b1 ?b2 ?grow)
      case k1 => exact one_cell _ rfl
      case k2 => intro u hu; simp at hu; subst hu; rfl
      case b1 => unfold maxLen; omega
      case b2 => omega
      case grow =>
        intro g' c' w4 hS4 hor hM
        have HX : Hd _ := ⟨RI.step (o := .cells #[.int .u64 (addrOf k 0 0 : Nat)] 45) HE3.out HL3.out hroom hS4 (by simpa using hor) (by simpa using hM)⟩
        clear hS4 hor hM HE3 HL3
        go_wp2_with fail
        go_roundg (gk - 1)
        case measure => omega
        case rel => exact ⟨k + 1, g', c', own3, by go_num, by omega, HX⟩
    · have hkn : k ≤ k * n := Nat.le_mul_of_pos_right k hn1
      have hfit := HI.out.fits
      have hq : R / n = k := RS_many R n k hn1 hfit (by omega)
      have hq1 : (R : Int).tdiv (n : Int) = (k : Int) := by rw [← Int.ofNat_tdiv, hq]
      go_wp2_with fail
      refine (HI.out.env.get_c (RS_WF R n (by omega) hn1 (by omega) k HI.out.fits) n (RS_get_no R n k hn1 (by omega) (by omega))).mono ?_
      rintro e w3 ⟨rfl, own3, hE3, hA3⟩
      have hL3 := HI.out.lst.aft hA3
      have HE3 : Hd _ := ⟨hE3⟩
      have HL3 : Hd _ := ⟨hL3⟩
      clear hE3 hA3 hL3 HI
      go_wp2_with fail
      refine HE3.out.used_c.mono ?_
      rintro e w4 ⟨rfl, rfl⟩
      rw [show (((RS R n k).used : Nat) : Int) = (k : Int) * (n : Int) by simp [RS]]
      by_cases hk0 : k = 0
      · subst hk0
        go_wp2
        go_ret
        exact ⟨rfl, HE3.out.below⟩
      · obtain ⟨j, hj1, hj2, hj⟩ : ∃ j : Nat, (F : Int) % (k : Int) = (j : Int) ∧ (F : Int).tmod (k : Int) = (j : Int) ∧ j < k := ⟨F % k, by omega, by rw [← Int.ofNat_tmod], Nat.mod_lt _ (by omega)⟩
        obtain ⟨a0, ha0⟩ : ∃ a0, a0 = addrOf j 0 0 := ⟨_, rfl⟩
        obtain ⟨a1, ha1⟩ : ∃ a1, a1 = addrOf j 1 0 := ⟨_, rfl⟩
        have hne : ((a1 : Int) != (a0 : Int)) = true := by rw [bne_iff_ne]; subst ha0 ha1; unfold addrOf; omega
        have hwr : IntKind.u64.wrap ((a0 : Int) + 4294967296) = (a1 : Int) := by subst ha0 ha1; unfold addrOf; simp [IntKind.wrap, IntKind.bits, IntKind.signed]; omega
        have hlt : a0 < 18446744073709551616 := by subst ha0; unfold addrOf; omega
        have hc0 : w3.cell? ⟨g, j, none⟩ = some (.int .u64 (a0 : Int)) := by rw [ha0]; exact HL3.out.sl.cell rfl (adds_get k j hj)
        have hcap := HL3.out.sl.le
        have HA0 : Hd _ := ⟨ha0⟩
        have HA1 : Hd _ := ⟨ha1⟩
        have HFR : Hd ((RS R n k).free1 a0 = (0, RF R n k j)) := ⟨by rw [ha0]; exact RS_free R n k j (by omega) hn1 hj⟩
        clear ha0 ha1
        go_wp2_with fail
        refine (HE3.out.free_c (RS_WF R n (by omega) hn1 (by omega) k hfit) a0 hlt HFR.out).mono ?_
        rintro e w4 ⟨rfl, own4, hE4, hA4⟩
        have hL4 := HL3.out.aft hA4
        have HE4 : Hd _ := ⟨hE4⟩
        have HL4 : Hd _ := ⟨hL4⟩
        clear hE4 hA4 hL4 HE3 HL3 hc0
        go_wp2_with fail
        refine (HE4.out.get_c (RF_WF R n k j (by omega) hn1 (by omega) hfit hj) n (RF_get R n k j (by omega) hn1 (by omega) hj hfit)).mono ?_
        rintro e w5 ⟨rfl, own5, hE5, hA5⟩
        have hL5 := HL4.out.aft hA5
        have HE5 : Hd _ := ⟨hE5⟩
        have HL5 : Hd _ := ⟨hL5⟩
        clear hE5 hA5 hL5 HE4 HL4
        rw [← HA1.out]
        go_wp2_with fail
        refine (HE5.out.get_c (RG_WF R n k j (by omega) hn1 (by omega) hfit hj) n (RG_get R n k j hn1 (by omega) (by omega))).mono ?_
        rintro e w6 ⟨rfl, own6, hE6, hA6⟩
        have hL6 := HL5.out.aft hA6
        have HE6 : Hd _ := ⟨hE6⟩
        have HL6 : Hd _ := ⟨hL6⟩
        have hc0 : w6.cell? ⟨g, j, none⟩ = some (.int .u64 (a0 : Int)) := by rw [HA0.out]; exact hL6.sl.cell rfl (adds_get k j hj)
        clear hE6 hA6 hL6 HE5 HL5
        go_wp2
        go_ret
        exact ⟨rfl, HE6.out.below⟩
end Go.Proofs.Ytpgoogjaoffdoaa
