/- The reference's keys, varKeys and placeKeys, walked. -/
import Derived.Test.YtpodeccpibnlbaaGreatDoorG35
import Derived.Test.YtpodeccpibnlbaaGreatDoorG34
import Derived.Test.YtpodeccpibnlbaaGreatDoorG04
import Derived.Deep.QuietTactic
import Derived.BigQuiet
namespace Go.Proofs.YtpodeccpibnlbaaGreatDoor
set_option linter.unusedVariables false
set_option linter.unusedSimpArgs false
open Go.RowKit
/-- A code has been told as far as s; what is left of the row, with what follows it, makes the whole. -/
theorem row_hit {α : Type} {f : α → List UInt8} {l : List α} {k : Nat} {x : α} (hx : l[k]? = some x) : ((l.drop k).map f).flatten = f x ++ ((l.drop (k + 1)).map f).flatten := by
  rw [drop_cons hx]
  simp
theorem row_end {α : Type} {f : α → List UInt8} {l : List α} {k : Nat} (h : l.length ≤ k) : ((l.drop k).map f).flatten = [] := by
  rw [List.drop_eq_nil_of_le h]; rfl
theorem lst_bs (l : List UInt8) : lst (bs l) = l := bs_toList l
theorem lst_app (a b : ByteArray) : lst (a ++ b) = lst a ++ lst b := by simp [lst, ByteArray.data_append]
theorem size_app (a b : ByteArray) : (a ++ b).size = a.size + b.size := ByteArray.size_append
section
variable {S : Nat → Prop} {w0 : World}
/-- A call that only reads. -/
def Qui (N : Nat) (args : Array Value) (w : World) (r : Value) : Prop := Calls Tryz.prog N args w fun e w' => e = .returned r ∧ ∃ q, w' = w.drewN q
theorem qui_same {N : Nat} {args : Array Value} {w : World} {r : Value} (h : Calls Tryz.prog N args w fun e w' => e = .returned r ∧ w' = w) : Qui N args w r := h.mono fun e w' ⟨a, b⟩ => ⟨a, 0, by rw [b]; rfl⟩
theorem key_u (s : ByteArray) (h : (keyB s).length ≤ 1099511627776) (w : World) : Qui 55 #[.string s] w (.string (bs (keyB s))) :=
  qui_same (key_q s (by unfold keyB at h; simp only [List.length_append, List.length_cons, lst_len] at h; omega) w)
theorem qui_mod {N : Nat} {args : Array Value} {w : World} {r : Value} (h : Qui N args w r) : Calls Tryz.prog N args w fun e w' => e = .returned r ∧ Mod (fun _ => False) w w' := h.mono fun e w' ⟨a, q, b⟩ => ⟨a, by rw [b]; exact ⟨rfl, rfl, rfl, Nat.le_refl _, fun _ _ _ => rfl⟩⟩
theorem modN (w : World) (q : Nat) : Mod (fun _ => False) w (w.drewN q) := ⟨rfl, rfl, rfl, Nat.le_refl _, fun _ _ _ => rfl⟩

set_option maxRecDepth 100000 in
set_option maxHeartbeats 4000000 in
theorem keys_u {oa : Option Addr} {la ca : Nat} {l : List ByteArray} (h : Strs S w0 oa la ca l) (hb : (keysL l).length ≤ 1099511627776) : Qui 60 #[.slice oa la ca] w0 (.string (bs (keysL l))) := by
  have HS : Hd _ := ⟨h⟩
  have hbig := h.hbig
  have hlen := h.hlen
  subst hlen
  clear h
  have hw : IntKind.u64.wrap (l.length : Int) = (l.length : Int) := by rw [IntKind.wrap_u64]; omega
  have HD : Hd _ := ⟨digits_q l.length (by omega) w0⟩
  have hl := digL_len20 (n := l.length) (by omega)
  have HK : Hd (lst (bs (digL l.length) ++ ({ data := #[91] } : ByteArray)) ++ ((l.drop 0).map keyB).flatten = keysL l) := ⟨by rw [lst_app, lst_bs, List.append_assoc]; rfl⟩
  have hl2 : (bs (digL l.length)).size ≤ 20 := by rw [bs_size]; exact hl
  obtain ⟨d, hd⟩ : ∃ d, bs (digL l.length) = d := ⟨_, rfl⟩
  rw [hd] at HD HK hl2
  obtain ⟨T, hT⟩ : ∃ T, keysL l = T := ⟨_, rfl⟩
  rw [hT] at HK hb ⊢
  clear hd hT hl
  go_enter Tryz.func60, Tryz.ntmps60
  go_wp2_with fail
  refine HD.out.mono ?_
  rintro e w1 ⟨rfl, rfl⟩
  go_wp2_with fail
  go_loopg [3, 4] l.length (fun gk v3 v4 wr => Hd (∃ q, wr = w1.drewN q) ∧ ∃ (k : Nat) (s : ByteArray), v4 = .int .i64 k ∧ v3 = .string s ∧ k + gk = l.length ∧ Hd (lst s ++ ((l.drop k).map keyB).flatten = T))
  case atStart => exact ⟨⟨0, rfl⟩, 0, _, rfl, rfl, by omega, HK⟩
  case round =>
    obtain ⟨HW, k, s, rfl, rfl, hk, HI⟩ := hrel
    by_cases hlt : k < l.length
    · have hx0 : l[k]? = some l[k] := List.getElem?_eq_getElem (by omega)
      obtain ⟨x, hx⟩ : ∃ x, l[k]? = some x := ⟨_, hx0⟩
      have HX : Hd _ := ⟨hx⟩
      have HI2 : Hd (lst s ++ (keyB x ++ ((l.drop (k + 1)).map keyB).flatten) = T) := ⟨by rw [← row_hit HX.out]; exact HI.out⟩
      have hsz := congrArg List.length HI2.out
      rw [List.length_append, List.length_append, lst_len] at hsz
      obtain ⟨b, o, rfl, _, hbl, e0, hv⟩ := HS.out.str hx
      have d0 : wr.cell? ⟨b, o + k, none⟩ = some (.string x) := by obtain ⟨q, hq⟩ := HW.out; rw [hq]; exact e0
      have HC : Hd _ := ⟨key_q x (by have := hv.2; unfold Sm at this; omega) wr⟩
      have z1 : (bs (keyB x)).size = (keyB x).length := bs_size _
      have HB : Hd (lst (s ++ bs (keyB x)) ++ ((l.drop (k + 1)).map keyB).flatten = T) := ⟨by rw [lst_app, lst_bs, ← HI2.out, List.append_assoc]⟩
      change Hd (Calls Tryz.prog 55 #[.string x] wr fun e w' => e = .returned (.string (bs (keyB x))) ∧ w' = wr) at HC
      obtain ⟨y1, h1⟩ : ∃ y, bs (keyB x) = y := ⟨_, rfl⟩
      rw [h1] at z1 HB HC
      rw [← z1] at hsz
      clear z1 h1 HI2 e0 hbl hv
      clear hx hx0 HI
      go_wp2_with fail
      refine HC.out.mono ?_
      rintro e w2 ⟨rfl, rfl⟩
      go_wp2_with fail
      go_roundg (gk - 1)
      case measure => omega
      case rel => exact ⟨HW, k + 1, _, by go_num, rfl, by omega, HB⟩
    · have HE : Hd (s = bs T) := ⟨bs_of (by rw [← HI.out, row_end (by omega), List.append_nil])⟩
      go_wp2
      go_ret
      exact ⟨by rw [HE.out]; rfl, HW.out⟩

set_option maxRecDepth 100000 in
set_option maxHeartbeats 4000000 in
theorem varKeys_u {oa : Option Addr} {la ca : Nat} {l : List Vr} (h : Vrs S w0 oa la ca l) (hb : (varKeysL l).length ≤ 1099511627776) : Qui 57 #[.slice oa la ca] w0 (.string (bs (varKeysL l))) := by
  have HS : Hd _ := ⟨h⟩
  have hbig := h.hbig
  have hlen := h.hlen
  subst hlen
  clear h
  have hw : IntKind.u64.wrap (l.length : Int) = (l.length : Int) := by rw [IntKind.wrap_u64]; omega
  have HD : Hd _ := ⟨digits_q l.length (by omega) w0⟩
  have hl := digL_len20 (n := l.length) (by omega)
  have HK : Hd (lst (bs (digL l.length) ++ ({ data := #[123] } : ByteArray)) ++ ((l.drop 0).map varK).flatten = varKeysL l) := ⟨by rw [lst_app, lst_bs, List.append_assoc]; rfl⟩
  have hl2 : (bs (digL l.length)).size ≤ 20 := by rw [bs_size]; exact hl
  obtain ⟨d, hd⟩ : ∃ d, bs (digL l.length) = d := ⟨_, rfl⟩
  rw [hd] at HD HK hl2
  obtain ⟨T, hT⟩ : ∃ T, varKeysL l = T := ⟨_, rfl⟩
  rw [hT] at HK hb ⊢
  clear hd hT hl
  go_enter Tryz.func57, Tryz.ntmps57
  go_wp2_with fail
  refine HD.out.mono ?_
  rintro e w1 ⟨rfl, rfl⟩
  go_wp2_with fail
  go_loopg [3, 4] l.length (fun gk v3 v4 wr => Hd (∃ q, wr = w1.drewN q) ∧ ∃ (k : Nat) (s : ByteArray), v4 = .int .i64 k ∧ v3 = .string s ∧ k + gk = l.length ∧ Hd (lst s ++ ((l.drop k).map varK).flatten = T))
  case atStart => exact ⟨⟨0, rfl⟩, 0, _, rfl, rfl, by omega, HK⟩
  case round =>
    obtain ⟨HW, k, s, rfl, rfl, hk, HI⟩ := hrel
    by_cases hlt : k < l.length
    · have hx0 : l[k]? = some l[k] := List.getElem?_eq_getElem (by omega)
      obtain ⟨x, hx⟩ : ∃ x, l[k]? = some x := ⟨_, hx0⟩
      have HX : Hd _ := ⟨hx⟩
      have HI2 : Hd (lst s ++ (varK x ++ ((l.drop (k + 1)).map varK).flatten) = T) := ⟨by rw [← row_hit HX.out]; exact HI.out⟩
      have hsz := congrArg List.length HI2.out
      rw [List.length_append, List.length_append, lst_len] at hsz
      obtain ⟨b, o, rfl, _, hbl, e0, e1, hv⟩ := HS.out.vr hx
      have d0 : ∀ n, (wr.drewN n).cell? ⟨b, o + k * 2, none⟩ = some (.string x.name) := fun n => by obtain ⟨q, hq⟩ := HW.out; rw [hq]; exact e0
      have d1 : ∀ n, (wr.drewN n).cell? ⟨b, o + k * 2 + 1, none⟩ = some (.string x.type) := fun n => by obtain ⟨q, hq⟩ := HW.out; rw [hq]; exact e1
      clear e0 e1 hbl hv
      clear hx hx0 HI
      rw [show varK x = keyB x.name ++ keyB x.type from rfl, List.length_append] at hsz
      have HA : Hd (lst s ++ (keyB x.name ++ (keyB x.type ++ ((l.drop (k + 1)).map varK).flatten)) = T) := ⟨by rw [← HI2.out]; exact congrArg _ (List.append_assoc _ _ _).symm⟩
      have z1 : (bs (keyB x.name)).size = (keyB x.name).length := bs_size _
      have z2 : (bs (keyB x.type)).size = (keyB x.type).length := bs_size _
      have HB : Hd (lst (s ++ (bs (keyB x.name) ++ bs (keyB x.type))) ++ ((l.drop (k + 1)).map varK).flatten = T) := ⟨by rw [lst_app, lst_app, lst_bs, lst_bs, ← HA.out]; simp only [List.append_assoc]⟩
      have HC1 : Hd (∀ n : Nat, _) := ⟨fun n => key_u x.name (by omega) (wr.drewN n)⟩
      have HC2 : Hd (∀ n : Nat, _) := ⟨fun n => key_u x.type (by omega) (wr.drewN n)⟩
      obtain ⟨y1, h1⟩ : ∃ y, bs (keyB x.name) = y := ⟨_, rfl⟩
      rw [h1] at z1 HB HC1
      obtain ⟨y2, h2⟩ : ∃ y, bs (keyB x.type) = y := ⟨_, rfl⟩
      rw [h2] at z2 HB HC2
      have zz : s.size + (y1.size + y2.size) ≤ 1099511627776 := by rw [z1, z2]; omega
      have hsa : (y1 ++ y2).size = y1.size + y2.size := size_app _ _
      clear z1 z2 h1 h2 HA HI2 hsz
      go_wp2_with fail
      go_quiet (first | (go_at_call 55; exact Calls.quiet_of (HC1.out _)) | (go_at_call 55; exact Calls.quiet_of (HC2.out _)))
      go_wp2_with fail
      go_roundg (gk - 1)
      case measure => omega
      case rel => exact ⟨⟨by obtain ⟨q, hq⟩ := HW.out; exact ⟨_, by rw [hq, World.drewN_drewN]⟩⟩, k + 1, _, by go_num, rfl, by omega, HB⟩
    · have HE : Hd (s = bs T) := ⟨bs_of (by rw [← HI.out, row_end (by omega), List.append_nil])⟩
      go_wp2
      go_ret
      exact ⟨by rw [HE.out]; rfl, HW.out⟩

set_option maxRecDepth 100000 in
set_option maxHeartbeats 4000000 in
theorem placeKeys_u {oa : Option Addr} {la ca : Nat} {l : List Pl} (h : Pls S w0 oa la ca l) (hb : (placeKeysL l).length ≤ 1099511627776) : Qui 59 #[.slice oa la ca] w0 (.string (bs (placeKeysL l))) := by
  have HS : Hd _ := ⟨h⟩
  have hbig := h.hbig
  have hlen := h.hlen
  subst hlen
  clear h
  have hw : IntKind.u64.wrap (l.length : Int) = (l.length : Int) := by rw [IntKind.wrap_u64]; omega
  have HD : Hd _ := ⟨digits_q l.length (by omega) w0⟩
  have hl := digL_len20 (n := l.length) (by omega)
  have HK : Hd (lst (bs (digL l.length) ++ ({ data := #[40] } : ByteArray)) ++ ((l.drop 0).map placeK).flatten = placeKeysL l) := ⟨by rw [lst_app, lst_bs, List.append_assoc]; rfl⟩
  have hl2 : (bs (digL l.length)).size ≤ 20 := by rw [bs_size]; exact hl
  obtain ⟨d, hd⟩ : ∃ d, bs (digL l.length) = d := ⟨_, rfl⟩
  rw [hd] at HD HK hl2
  obtain ⟨T, hT⟩ : ∃ T, placeKeysL l = T := ⟨_, rfl⟩
  rw [hT] at HK hb ⊢
  clear hd hT hl
  go_enter Tryz.func59, Tryz.ntmps59
  go_wp2_with fail
  refine HD.out.mono ?_
  rintro e w1 ⟨rfl, rfl⟩
  go_wp2_with fail
  go_loopg [3, 4] l.length (fun gk v3 v4 wr => Hd (∃ q, wr = w1.drewN q) ∧ ∃ (k : Nat) (s : ByteArray), v4 = .int .i64 k ∧ v3 = .string s ∧ k + gk = l.length ∧ Hd (lst s ++ ((l.drop k).map placeK).flatten = T))
  case atStart => exact ⟨⟨0, rfl⟩, 0, _, rfl, rfl, by omega, HK⟩
  case round =>
    obtain ⟨HW, k, s, rfl, rfl, hk, HI⟩ := hrel
    by_cases hlt : k < l.length
    · have hx0 : l[k]? = some l[k] := List.getElem?_eq_getElem (by omega)
      obtain ⟨x, hx⟩ : ∃ x, l[k]? = some x := ⟨_, hx0⟩
      have HX : Hd _ := ⟨hx⟩
      have HI2 : Hd (lst s ++ (placeK x ++ ((l.drop (k + 1)).map placeK).flatten) = T) := ⟨by rw [← row_hit HX.out]; exact HI.out⟩
      have hsz := congrArg List.length HI2.out
      rw [List.length_append, List.length_append, lst_len] at hsz
      obtain ⟨b, o, oa1, la1, ca1, rfl, _, hbl, e0, e1, hv⟩ := HS.out.pl hx
      obtain ⟨_, oa2, la2, ca2, hve, hst⟩ := hv
      simp only [Value.agg.injEq, Array.mk.injEq, List.cons.injEq, Value.slice.injEq, true_and, and_true] at hve
      have d0 : ∀ n, (wr.drewN n).cell? ⟨b, o + k * 2, none⟩ = some (.string x.loc) := fun n => by obtain ⟨q, hq⟩ := HW.out; rw [hq]; exact e0
      have d1 : ∀ n, (wr.drewN n).cell? ⟨b, o + k * 2 + 1, none⟩ = some (.slice oa1 la1 ca1) := fun n => by obtain ⟨q, hq⟩ := HW.out; rw [hq]; exact e1
      have hst' : Strs S wr oa1 la1 ca1 x.steps := by obtain ⟨rfl, rfl, rfl⟩ := hve; obtain ⟨q, hq⟩ := HW.out; rw [hq]; exact hst.keep ((modN w1 q).kp S) (fun _ _ h => h)
      clear e0 e1 hbl hve hst
      clear hx hx0 HI
      rw [show placeK x = keyB x.loc ++ keysL x.steps from rfl, List.length_append] at hsz
      have HA : Hd (lst s ++ (keyB x.loc ++ (keysL x.steps ++ ((l.drop (k + 1)).map placeK).flatten)) = T) := ⟨by rw [← HI2.out]; exact congrArg _ (List.append_assoc _ _ _).symm⟩
      have z1 : (bs (keyB x.loc)).size = (keyB x.loc).length := bs_size _
      have z2 : (bs (keysL x.steps)).size = (keysL x.steps).length := bs_size _
      have HB : Hd (lst (s ++ (bs (keyB x.loc) ++ bs (keysL x.steps))) ++ ((l.drop (k + 1)).map placeK).flatten = T) := ⟨by rw [lst_app, lst_app, lst_bs, lst_bs, ← HA.out]; simp only [List.append_assoc]⟩
      have HC1 : Hd (∀ n : Nat, _) := ⟨fun n => key_u x.loc (by omega) (wr.drewN n)⟩
      have HC2 : Hd (∀ n : Nat, _) := ⟨fun n => keys_u (w0 := wr.drewN n) (hst'.keep ((modN wr n).kp S) (fun _ _ h => h)) (by omega)⟩
      obtain ⟨y1, h1⟩ : ∃ y, bs (keyB x.loc) = y := ⟨_, rfl⟩
      rw [h1] at z1 HB HC1
      obtain ⟨y2, h2⟩ : ∃ y, bs (keysL x.steps) = y := ⟨_, rfl⟩
      rw [h2] at z2 HB HC2
      have zz : s.size + (y1.size + y2.size) ≤ 1099511627776 := by rw [z1, z2]; omega
      have hsa : (y1 ++ y2).size = y1.size + y2.size := size_app _ _
      clear hst' z1 z2 h1 h2 HA HI2 hsz
      go_wp2_with fail
      go_quiet (first | (go_at_call 55; exact Calls.quiet_of (HC1.out _)) | (go_at_call 60; exact Calls.quiet_of (HC2.out _)))
      go_wp2_with fail
      go_roundg (gk - 1)
      case measure => omega
      case rel => exact ⟨⟨by obtain ⟨q, hq⟩ := HW.out; exact ⟨_, by rw [hq, World.drewN_drewN]⟩⟩, k + 1, _, by go_num, rfl, by omega, HB⟩
    · have HE : Hd (s = bs T) := ⟨bs_of (by rw [← HI.out, row_end (by omega), List.append_nil])⟩
      go_wp2
      go_ret
      exact ⟨by rw [HE.out]; rfl, HW.out⟩
end
end Go.Proofs.YtpodeccpibnlbaaGreatDoor
