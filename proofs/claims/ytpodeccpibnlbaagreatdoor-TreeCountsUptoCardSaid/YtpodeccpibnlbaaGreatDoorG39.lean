/- Words for the reference's Key. The reference's Key: a statement's code is added. The reference's Key: an end's code is added. -/
import Derived.Test.YtpodeccpibnlbaaGreatDoorG38
import Derived.Deep.RegionHeld3
namespace Go.Proofs.YtpodeccpibnlbaaGreatDoor
set_option linter.unusedVariables false
set_option linter.unusedSimpArgs false
open Go.RowKit
theorem lst_lit (l : Array UInt8) : lst ({ data := l } : ByteArray) = l.toList := rfl
theorem placeOne_at {S : Nat → Prop} {w0 : World} {g : Nat} {p : Pl} {oa : Option Addr} {la ca : Nat} {W : World} (hp : plV S w0 (.agg #[.string p.loc, .slice oa la ca]) p) (hw : Mod (fun _ => False) w0 W) (hb : (placeKeysL [p]).length ≤ 1099511627776)
    (hg : W.heap[g]? = some (.cells #[.string p.loc, .slice oa la ca] 24 (0, 0))) : Qui 59 #[.slice (some ⟨g, 0, none⟩) 1 1] W (.string (bs (placeKeysL [p]))) :=
  placeKeys_u (S := fun b => S b ∨ b = g) (.one_ hg (Or.inr rfl) (.agg #[.string p.loc, .slice oa la ca]) (by simp [Value.cells]) (hp.keep (fun b hb hl => ⟨Or.inl hb, Nat.lt_of_lt_of_le hl hw.size, hw.block b hl (fun h => h)⟩))) hb
theorem Calls.at_ {N : Nat} {args args' : Array Value} {w : World} {Q : Ending → World → Prop} (h : Calls Tryz.prog N args' w Q) (he : args' = args) : Calls Tryz.prog N args w Q := he ▸ h
theorem key_e (s : ByteArray) (h : (keyB s).length ≤ 1099511627776) (w : World) : Calls Tryz.prog 55 #[.string s] w fun e w' => e = .returned (.string (bs (keyB s))) ∧ w' = w := key_q s (by unfold keyB at h; simp only [List.length_append, List.length_cons, lst_len] at h; omega) w
theorem Qui.at {N : Nat} {args args' : Array Value} {w : World} {r : Value} (h : Qui N args' w r) (he : args' = args) : Qui N args w r := he ▸ h
theorem digits_u (n : Nat) (h : n < 18446744073709551616) (w : World) : Qui 54 #[.int .u64 (n : Int)] w (.string (bs (digL n))) := qui_same (digits_q n h w)
theorem flag_u (b : Bool) (w : World) : Qui 56 #[.bool b] w (.string (bs (flagL b))) := by
  have h := qui_same (flag_q b w)
  cases b <;> exact h
theorem number_u (k : Int) (h : I64 k) (w : World) : Qui 58 #[.int .i64 k] w (.string (bs (numberL k))) := qui_same (number_q k h.1 h.2 w)
theorem rest_hit {α : Type} {f : α → List UInt8} {l : List α} {k : Nat} {x : α} {s : ByteArray} {R T : List UInt8} (h : lst s ++ (((l.drop k).map f).flatten ++ R) = T) (hx : l[k]? = some x) :
    lst s ++ (f x ++ (((l.drop (k + 1)).map f).flatten ++ R)) = T := by
  rw [← h, row_hit hx, List.append_assoc]
theorem rest_end {α : Type} {f : α → List UInt8} {l : List α} {k : Nat} {s : ByteArray} {R T : List UInt8} (h : lst s ++ (((l.drop k).map f).flatten ++ R) = T) (hk : l.length ≤ k) :
    lst s ++ R = T := by
  rw [← h, row_end hk, List.nil_append]
theorem list_open {α : Type} {f : α → List UInt8} {l : List α} {c : UInt8} {s : ByteArray} {R T : List UInt8} (h : lst s ++ (listK c f l ++ R) = T) : lst s ++ ((digL l.length ++ [c]) ++ (((l.drop 0).map f).flatten ++ R)) = T := by
  rw [← h]
  unfold listK
  simp
/-- A region of a function's text, by its number. -/
def regOf (n : Nat) : Code → Option Code
  | .region k o b => if k == n then some (.region k o b) else none
  | .seq a b => match regOf n a with
    | some c => some c
    | none => regOf n b
  | .block _ c => regOf n c
  | .scope c => regOf n c
  | .loop c => regOf n c
  | .cond _ a b => match regOf n a with
    | some c => some c
    | none => regOf n b
  | _ => none
set_option maxRecDepth 1000000 in
noncomputable def reg27 : Code := ((Tryz.f22.body.bind (regOf 27)).getD .skip)
set_option maxRecDepth 1000000 in
noncomputable def reg29 : Code := ((Tryz.f22.body.bind (regOf 29)).getD .skip)
section
variable {S : Nat → Prop} {w0 : World}
theorem keys_at {oa : Option Addr} {la ca : Nat} {l : List ByteArray} (h : Strs S w0 oa la ca l) (hb : (keysL l).length ≤ 1099511627776) (w : World) (hw : Mod (fun _ => False) w0 w) : Qui 60 #[.slice oa la ca] w (.string (bs (keysL l))) := keys_u (h.keep (hw.kp S) (fun _ _ h => h)) hb
theorem varKeys_at {oa : Option Addr} {la ca : Nat} {l : List Vr} (h : Vrs S w0 oa la ca l) (hb : (varKeysL l).length ≤ 1099511627776) (w : World) (hw : Mod (fun _ => False) w0 w) : Qui 57 #[.slice oa la ca] w (.string (bs (varKeysL l))) := varKeys_u (h.keep (hw.kp S) (fun _ _ h => h)) hb
theorem placeKeys_at {oa : Option Addr} {la ca : Nat} {l : List Pl} (h : Pls S w0 oa la ca l) (hb : (placeKeysL l).length ≤ 1099511627776) (w : World) (hw : Mod (fun _ => False) w0 w) : Qui 59 #[.slice oa la ca] w (.string (bs (placeKeysL l))) := placeKeys_u (h.keep (hw.kp S) (fun _ _ h => h.keep (hw.kp S))) hb

end
end Go.Proofs.YtpodeccpibnlbaaGreatDoor
namespace Go.Proofs.YtpodeccpibnlbaaGreatDoor
set_option linter.unusedVariables false
set_option linter.unusedSimpArgs false
open Go.RowKit
section
variable {S : Nat → Prop} {w0 : World}
set_option maxRecDepth 1000000 in
set_option maxHeartbeats 16000000 in
theorem reg27_c {W5 : World} {s : ByteArray} {z : Stm} {bz la6 ca6 lb6 cb6 : Nat} {oa6 ob6 : Option Addr} {R7 T : List UInt8} {Q : Exit → Act → World → Prop}
    (hb : T.length ≤ 1099511627776) (HXS : Hd (W5.heap[bz]? = some (.cells #[.int .i64 z.pos, .int .i64 z.kind, .string z.dest.loc, .slice oa6 la6 ca6, .int .i64 z.n, .string z.name, .string z.variant, .slice ob6 lb6 cb6] 68 (0, 0)))) (HKS : Hd (Mod (fun _ => False) w0 W5)) (HZD : Hd (plV S w0 (.agg #[.string z.dest.loc, .slice oa6 la6 ca6]) z.dest)) (HZA : Hd (Pls S w0 ob6 lb6 cb6 z.args)) (HZK : Hd (I64 z.kind)) (HZN : Hd (I64 z.n))
    (HI3 : Hd (lst s ++ (numberL z.kind ++ (placeKeysL [z.dest] ++ (numberL z.n ++ (59 :: (keyB z.name ++ (keyB z.variant ++ (placeKeysL z.args ++ R7))))))) = T))
    (u0 u1 u2 u4 u5 u6 u7 u8 u9 u10 u11 u13 u14 u15 u16 u17 u18 u19 u20 u21 u22 u23 u24 u25 u26 u27 u28 u29 u30 u31 u32 u33 u34 u35 u36 u37 u38 u39 u40 u41 u42 u43 u44 u45 u46 u47 u48 u49 u50 u51 u52 u53 u54 u55 u56 u57 u58 u59 u60 u61 u62 u63 u64 u65 u66 u67 u68 u69 u70 u71 u72 u73 u74 u75 u76 u77 u78 u79 u80 u81 u82 u83 u84 u85 u86 u87 u88 u89 u90 u91 u92 u93 u94 u95 u96 u97 u98 u99 u100 u101 u102 u103 u104 u105 u106 u107 u108 u109 u110 u111 u112 u113 u114 u115 u116 u117 u118 u119 u120 u121 u122 u123 u124 u125 u126 u127 u128 u129 u130 u131 u132 u133 u134 u135 u136 u137 u138 u139 u140 u141 u142 u143 u144 u145 u146 u147 u148 u149 u150 u151 u152 u153 u154 u155 u156 u157 u158 u159 u160 u161 u162 u163 u164 u165 u166 u167 u168 u169 u170 u171 u172 u173 u174 u175 u176 u177 u178 u179 u180 u181 u182 u183 u184 u185 u186 u187 u188 u189 u190 u191 u192 u193 u194 u195 u196 u197 u198 u199 u200 u201 u202 u203 u204 u205 u206 u207 u208 u209 u210 u211 u212 u213 u214 u215 u216 u217 u218 u219 u220 u221 u222 u223 u224 u225 u226 u227 u228 u229 u230 u231 u232 u233 u234 u235 u236 u237 u238 u239 u240 u241 u242 u243 u244 u245 u246 u247 u248 u249 u250 u251 u252 : Value)
    (hK : ∀ (s2 : ByteArray) (w' : World) (v162 v163 v164 v165 v166 v167 v168 v169 v170 v171 v172 v173 v174 v175 v176 v177 v178 v179 v180 v181 v182 v183 v184 v185 v186 v187 v188 : Value), Hd (Mod (fun _ => False) W5 w') → Hd (lst s2 ++ R7 = T) → Q .normal ⟨#[u0, u1, u2, .string s2, u4, u5, u6, u7, u8, u9, u10, u11, .pointer (some ⟨bz, 0, none⟩), u13, u14, u15, u16, u17, u18, u19, u20, u21, u22, u23, u24, u25, u26, u27, u28, u29, u30, u31, u32, u33, u34, u35, u36, u37, u38, u39, u40, u41, u42, u43, u44, u45, u46, u47, u48, u49, u50, u51, u52, u53, u54, u55, u56, u57, u58, u59, u60, u61, u62, u63, u64, u65, u66, u67, u68, u69, u70, u71, u72, u73, u74, u75, u76, u77, u78, u79, u80, u81, u82, u83, u84, u85, u86, u87, u88, u89, u90, u91, u92, u93, u94, u95, u96, u97, u98, u99, u100, u101, u102, u103, u104, u105, u106, u107, u108, u109, u110, u111, u112, u113, u114, u115, u116, u117, u118, u119, u120, u121, u122, u123, u124, u125, u126, u127, u128, u129, u130, u131, u132, u133, u134, u135, u136, u137, u138, u139, u140, u141, u142, u143, u144, u145, u146, u147, u148, u149, u150, u151, u152, u153, u154, u155, u156, u157, u158, u159, u160, u161, v162, v163, v164, v165, v166, v167, v168, v169, v170, v171, v172, v173, v174, v175, v176, v177, v178, v179, v180, v181, v182, v183, v184, v185, v186, v187, v188, u189, u190, u191, u192, u193, u194, u195, u196, u197, u198, u199, u200, u201, u202, u203, u204, u205, u206, u207, u208, u209, u210, u211, u212, u213, u214, u215, u216, u217, u218, u219, u220, u221, u222, u223, u224, u225, u226, u227, u228, u229, u230, u231, u232, u233, u234, u235, u236, u237, u238, u239, u240, u241, u242, u243, u244, u245, u246, u247, u248, u249, u250, u251, u252], []⟩ w') :
    Code.wp Tryz.prog reg27 Q ⟨#[u0, u1, u2, .string s, u4, u5, u6, u7, u8, u9, u10, u11, .pointer (some ⟨bz, 0, none⟩), u13, u14, u15, u16, u17, u18, u19, u20, u21, u22, u23, u24, u25, u26, u27, u28, u29, u30, u31, u32, u33, u34, u35, u36, u37, u38, u39, u40, u41, u42, u43, u44, u45, u46, u47, u48, u49, u50, u51, u52, u53, u54, u55, u56, u57, u58, u59, u60, u61, u62, u63, u64, u65, u66, u67, u68, u69, u70, u71, u72, u73, u74, u75, u76, u77, u78, u79, u80, u81, u82, u83, u84, u85, u86, u87, u88, u89, u90, u91, u92, u93, u94, u95, u96, u97, u98, u99, u100, u101, u102, u103, u104, u105, u106, u107, u108, u109, u110, u111, u112, u113, u114, u115, u116, u117, u118, u119, u120, u121, u122, u123, u124, u125, u126, u127, u128, u129, u130, u131, u132, u133, u134, u135, u136, u137, u138, u139, u140, u141, u142, u143, u144, u145, u146, u147, u148, u149, u150, u151, u152, u153, u154, u155, u156, u157, u158, u159, u160, u161, u162, u163, u164, u165, u166, u167, u168, u169, u170, u171, u172, u173, u174, u175, u176, u177, u178, u179, u180, u181, u182, u183, u184, u185, u186, u187, u188, u189, u190, u191, u192, u193, u194, u195, u196, u197, u198, u199, u200, u201, u202, u203, u204, u205, u206, u207, u208, u209, u210, u211, u212, u213, u214, u215, u216, u217, u218, u219, u220, u221, u222, u223, u224, u225, u226, u227, u228, u229, u230, u231, u232, u233, u234, u235, u236, u237, u238, u239, u240, u241, u242, u243, u244, u245, u246, u247, u248, u249, u250, u251, u252], []⟩ W5 := by
  conv => arg 2; whnf
  have HKK : Hd _ := ⟨hK⟩
  clear hK
  have HB : Hd (lst (s ++ ((((((bs (numberL z.kind) ++ bs (placeKeysL [z.dest])) ++ bs (numberL z.n)) ++ ({ data := #[59] } : ByteArray)) ++ bs (keyB z.name)) ++ bs (keyB z.variant)) ++ bs (placeKeysL z.args))) ++ R7 = T) := ⟨by
    rw [← HI3.out]
    simp only [lst_app, lst_bs, List.append_assoc, List.cons_append, List.nil_append, lst_lit, List.toList_toArray]⟩
  have hzz := congrArg List.length HB.out
  simp only [lst_app, lst_bs, List.length_append, lst_lit, List.toList_toArray, List.length_cons, List.length_nil] at hzz
  rw [lst_len] at hzz
  have HC0 : Hd (∀ n : World, _) := ⟨fun n => number_q z.kind HZK.out.1 HZK.out.2 n⟩
  have z0 : (bs (numberL z.kind)).size = (numberL z.kind).length := bs_size _
  obtain ⟨y0, h0⟩ : ∃ z_, bs (numberL z.kind) = z_ := ⟨_, rfl⟩
  rw [h0] at HC0 HB z0
  have HC1 : Hd (∀ n : Nat, _) := ⟨fun n => placeOne_at (W := (W5.alloc (.cells #[.string z.dest.loc, .slice oa6 la6 ca6] 24)).drew) (g := W5.heap.size) HZD.out (HKS.out.trans ((Mod.alloc _ _ _).trans (Mod.drew _ _) (fun _ h => Or.inl h)) (fun _ h => Or.inl h)) (by omega) (heap_new' _ _)⟩
  have z1 : (bs (placeKeysL [z.dest])).size = (placeKeysL [z.dest]).length := bs_size _
  obtain ⟨y1, h1⟩ : ∃ z_, bs (placeKeysL [z.dest]) = z_ := ⟨_, rfl⟩
  rw [h1] at HC1 HB z1
  have HC2 : Hd (∀ n : World, _) := ⟨fun n => number_q z.n HZN.out.1 HZN.out.2 n⟩
  have z2 : (bs (numberL z.n)).size = (numberL z.n).length := bs_size _
  obtain ⟨y2, h2⟩ : ∃ z_, bs (numberL z.n) = z_ := ⟨_, rfl⟩
  rw [h2] at HC2 HB z2
  have HC4 : Hd (∀ n : World, _) := ⟨fun n => key_e z.name (by omega) n⟩
  have z4 : (bs (keyB z.name)).size = (keyB z.name).length := bs_size _
  obtain ⟨y4, h4⟩ : ∃ z_, bs (keyB z.name) = z_ := ⟨_, rfl⟩
  rw [h4] at HC4 HB z4
  have HC5 : Hd (∀ n : World, _) := ⟨fun n => key_e z.variant (by omega) n⟩
  have z5 : (bs (keyB z.variant)).size = (keyB z.variant).length := bs_size _
  obtain ⟨y5, h5⟩ : ∃ z_, bs (keyB z.variant) = z_ := ⟨_, rfl⟩
  rw [h5] at HC5 HB z5
  have HC6 : Hd (∀ n : World, _) := ⟨fun n => placeKeys_at HZA.out (by omega) n⟩
  have z6 : (bs (placeKeysL z.args)).size = (placeKeysL z.args).length := bs_size _
  obtain ⟨y6, h6⟩ : ∃ z_, bs (placeKeysL z.args) = z_ := ⟨_, rfl⟩
  rw [h6] at HC6 HB z6
  rw [← z0] at hzz
  rw [← z1] at hzz
  rw [← z2] at hzz
  rw [← z4] at hzz
  rw [← z5] at hzz
  rw [← z6] at hzz
  have zz : s.size + (y0.size + y1.size + y2.size + 1 + y4.size + y5.size + y6.size) ≤ 1099511627776 := by omega
  clear hzz z0 h0 z1 h1 z2 h2 z4 h4 z5 h5 z6 h6
  have HSF : Hd (∀ w', Mod (fun _ => False) W5 w' → w'.cell? ⟨bz, 1, none⟩ = some (.int .i64 z.kind) ∧ w'.cell? ⟨bz, 2, none⟩ = some (.string z.dest.loc) ∧ w'.cell? ⟨bz, 3, none⟩ = some (.slice oa6 la6 ca6) ∧ w'.cell? ⟨bz, 4, none⟩ = some (.int .i64 z.n) ∧ w'.cell? ⟨bz, 5, none⟩ = some (.string z.name) ∧ w'.cell? ⟨bz, 6, none⟩ = some (.string z.variant) ∧ w'.cell? ⟨bz, 7, none⟩ = some (.slice ob6 lb6 cb6)) := ⟨fun w' hm => by
    have hb := (hm.block _ (Array.getElem?_eq_some_iff.1 HXS.out).1 (fun h => h)).trans HXS.out
    exact ⟨cell_in hb rfl, cell_in hb rfl, cell_in hb rfl, cell_in hb rfl, cell_in hb rfl, cell_in hb rfl, cell_in hb rfl⟩⟩
  have hs1 : ¬ 9223372036854775807 < y0.size + y1.size := by omega
  have hq1 : (y0 ++ y1).size = y0.size + y1.size := by first | (simp only [size_app]; done) | (simp only [size_app]; rfl)
  have hs2 : ¬ 9223372036854775807 < y0.size + y1.size + y2.size := by omega
  have hq2 : ((y0 ++ y1) ++ y2).size = y0.size + y1.size + y2.size := by first | (simp only [size_app]; done) | (simp only [size_app]; rfl)
  have hs3 : ¬ 9223372036854775807 < y0.size + y1.size + y2.size + 1 := by omega
  have hq3 : (((y0 ++ y1) ++ y2) ++ ({ data := #[59] } : ByteArray)).size = y0.size + y1.size + y2.size + 1 := by first | (simp only [size_app]; done) | (simp only [size_app]; rfl)
  have hs4 : ¬ 9223372036854775807 < y0.size + y1.size + y2.size + 1 + y4.size := by omega
  have hq4 : ((((y0 ++ y1) ++ y2) ++ ({ data := #[59] } : ByteArray)) ++ y4).size = y0.size + y1.size + y2.size + 1 + y4.size := by first | (simp only [size_app]; done) | (simp only [size_app]; rfl)
  have hs5 : ¬ 9223372036854775807 < y0.size + y1.size + y2.size + 1 + y4.size + y5.size := by omega
  have hq5 : (((((y0 ++ y1) ++ y2) ++ ({ data := #[59] } : ByteArray)) ++ y4) ++ y5).size = y0.size + y1.size + y2.size + 1 + y4.size + y5.size := by first | (simp only [size_app]; done) | (simp only [size_app]; rfl)
  have hs6 : ¬ 9223372036854775807 < y0.size + y1.size + y2.size + 1 + y4.size + y5.size + y6.size := by omega
  have hq6 : ((((((y0 ++ y1) ++ y2) ++ ({ data := #[59] } : ByteArray)) ++ y4) ++ y5) ++ y6).size = y0.size + y1.size + y2.size + 1 + y4.size + y5.size + y6.size := by first | (simp only [size_app]; done) | (simp only [size_app]; rfl)
  have hsN : ¬ 9223372036854775807 < s.size + (y0.size + y1.size + y2.size + 1 + y4.size + y5.size + y6.size) := by omega
  have TOK0 : True := trivial
  go_region_held3 (fun w' => w'.cell? ⟨bz, 1, none⟩ = some (.int .i64 z.kind) ∧ w'.cell? ⟨bz, 2, none⟩ = some (.string z.dest.loc) ∧ w'.cell? ⟨bz, 3, none⟩ = some (.slice oa6 la6 ca6) ∧ w'.cell? ⟨bz, 4, none⟩ = some (.int .i64 z.n) ∧ w'.cell? ⟨bz, 5, none⟩ = some (.string z.name) ∧ w'.cell? ⟨bz, 6, none⟩ = some (.string z.variant) ∧ w'.cell? ⟨bz, 7, none⟩ = some (.slice ob6 lb6 cb6)) (first | with_reducible exact HSF.out _ HWwA6.out | with_reducible exact HSF.out _ HWwA1.out | with_reducible exact HSF.out _ (Mod.drew _ _) | with_reducible exact HSF.out _ ((Mod.alloc _ _ _).trans (Mod.drew _ _) (fun _ h => Or.inl h))) (first
    | (clear TOK0
       go_at_call 58
       refine (Calls.at_ (HC0.out _) (by with_reducible rfl)).mono ?_
       rintro e w' ⟨rfl, rfl⟩
       have TOK1 : True := trivial)
    | (clear TOK1
       go_at_call 59
       refine (Calls.at_ (qui_mod (HC1.out 0)) (by with_reducible rfl)).mono ?_
       rintro e wA1 ⟨rfl, hA⟩
       have HWwA1 : Hd (Mod (fun _ => False) W5 wA1) := ⟨((Mod.alloc _ _ _).trans (Mod.drew _ _) (fun _ h => Or.inl h)).trans hA (fun _ h => Or.inl h)⟩
       clear hA
       have TOK2 : True := trivial)
    | (clear TOK2
       go_at_call 58
       refine (Calls.at_ (HC2.out _) (by with_reducible rfl)).mono ?_
       rintro e w' ⟨rfl, rfl⟩
       have TOK3 : True := trivial)
    | (clear TOK3
       go_at_call 55
       refine (Calls.at_ (HC4.out _) (by with_reducible rfl)).mono ?_
       rintro e w' ⟨rfl, rfl⟩
       have TOK4 : True := trivial)
    | (clear TOK4
       go_at_call 55
       refine (Calls.at_ (HC5.out _) (by with_reducible rfl)).mono ?_
       rintro e w' ⟨rfl, rfl⟩
       have TOK5 : True := trivial)
    | (clear TOK5
       go_at_call 59
       refine (Calls.at_ (qui_mod (HC6.out _ (HKS.out.trans HWwA1.out (fun _ h => Or.inl h)))) (by with_reducible rfl)).mono ?_
       rintro e wA6 ⟨rfl, hA⟩
       have HWwA6 : Hd (Mod (fun _ => False) W5 wA6) := ⟨HWwA1.out.trans hA (fun _ h => Or.inl h)⟩
       clear hA
       have TOK6 : True := trivial))
  all_goals exact HKK.out _ _ _ _ _ _ _ _ _ _ _ _ _ _ _ _ _ _ _ _ _ _ _ _ _ _ _ _ _ HWwA6 ⟨HB.out⟩
end
end Go.Proofs.YtpodeccpibnlbaaGreatDoor
namespace Go.Proofs.YtpodeccpibnlbaaGreatDoor
set_option linter.unusedVariables false
set_option linter.unusedSimpArgs false
open Go.RowKit
section
variable {S : Nat → Prop} {w0 : World}
set_option maxRecDepth 1000000 in
set_option maxHeartbeats 16000000 in
theorem reg29_c {W6 : World} {s : ByteArray} {y : Blk} {bt lb3 cb3 cc3 cd3 ce3 : Nat} {ob3 oc3 od3 oe3 : Option Addr} {RT T : List UInt8} {Q : Exit → Act → World → Prop}
    (hb : T.length ≤ 1099511627776) (hamb : y.term.arms.length ≤ 1048576) (ea : IntKind.u64.wrap (y.term.arms.length : Int) = (y.term.arms.length : Int)) (HXT : Hd (W6.heap[bt]? = some (.cells #[.int .i64 y.term.pos, .int .i64 y.term.kind, .string y.term.dest.loc, .slice ob3 lb3 cb3, .string y.term.name, .slice oc3 y.term.args.length cc3, .slice od3 y.term.blocks.length cd3, .slice oe3 y.term.arms.length ce3] 61 (0, 0)))) (HKT : Hd (Mod (fun _ => False) w0 W6)) (HTD : Hd (plV S w0 (.agg #[.string y.term.dest.loc, .slice ob3 lb3 cb3]) y.term.dest)) (HTA : Hd (Pls S w0 oc3 y.term.args.length cc3 y.term.args)) (HTB : Hd (Strs S w0 od3 y.term.blocks.length cd3 y.term.blocks)) (HTK : Hd (I64 y.term.kind))
    (HI3 : Hd (lst s ++ (numberL y.term.kind ++ (placeKeysL [y.term.dest] ++ (keyB y.term.name ++ (placeKeysL y.term.args ++ (keysL y.term.blocks ++ (digL y.term.arms.length ++ (97 :: RT))))))) = T))
    (u0 u1 u2 u4 u5 u6 u7 u8 u9 u10 u11 u12 u14 u15 u16 u17 u18 u19 u20 u21 u22 u23 u24 u25 u26 u27 u28 u29 u30 u31 u32 u33 u34 u35 u36 u37 u38 u39 u40 u41 u42 u43 u44 u45 u46 u47 u48 u49 u50 u51 u52 u53 u54 u55 u56 u57 u58 u59 u60 u61 u62 u63 u64 u65 u66 u67 u68 u69 u70 u71 u72 u73 u74 u75 u76 u77 u78 u79 u80 u81 u82 u83 u84 u85 u86 u87 u88 u89 u90 u91 u92 u93 u94 u95 u96 u97 u98 u99 u100 u101 u102 u103 u104 u105 u106 u107 u108 u109 u110 u111 u112 u113 u114 u115 u116 u117 u118 u119 u120 u121 u122 u123 u124 u125 u126 u127 u128 u129 u130 u131 u132 u133 u134 u135 u136 u137 u138 u139 u140 u141 u142 u143 u144 u145 u146 u147 u148 u149 u150 u151 u152 u153 u154 u155 u156 u157 u158 u159 u160 u161 u162 u163 u164 u165 u166 u167 u168 u169 u170 u171 u172 u173 u174 u175 u176 u177 u178 u179 u180 u181 u182 u183 u184 u185 u186 u187 u188 u189 u190 u191 u192 u193 u194 u195 u196 u197 u198 u199 u200 u201 u202 u203 u204 u205 u206 u207 u208 u209 u210 u211 u212 u213 u214 u215 u216 u217 u218 u219 u220 u221 u222 u223 u224 u225 u226 u227 u228 u229 u230 u231 u232 u233 u234 u235 u236 u237 u238 u239 u240 u241 u242 u243 u244 u245 u246 u247 u248 u249 u250 u251 u252 : Value)
    (hK : ∀ (s2 : ByteArray) (w' : World) (v191 v192 v193 v194 v195 v196 v197 v198 v199 v200 v201 v202 v203 v204 v205 v206 v207 v208 v209 v210 v211 v212 v213 v214 v215 v216 v217 v218 v219 : Value), Hd (Mod (fun _ => False) W6 w') → Hd (lst s2 ++ RT = T) → Q .normal ⟨#[u0, u1, u2, .string s2, u4, u5, u6, u7, u8, u9, u10, u11, u12, .pointer (some ⟨bt, 0, none⟩), u14, u15, u16, u17, u18, u19, u20, u21, u22, u23, u24, u25, u26, u27, u28, u29, u30, u31, u32, u33, u34, u35, u36, u37, u38, u39, u40, u41, u42, u43, u44, u45, u46, u47, u48, u49, u50, u51, u52, u53, u54, u55, u56, u57, u58, u59, u60, u61, u62, u63, u64, u65, u66, u67, u68, u69, u70, u71, u72, u73, u74, u75, u76, u77, u78, u79, u80, u81, u82, u83, u84, u85, u86, u87, u88, u89, u90, u91, u92, u93, u94, u95, u96, u97, u98, u99, u100, u101, u102, u103, u104, u105, u106, u107, u108, u109, u110, u111, u112, u113, u114, u115, u116, u117, u118, u119, u120, u121, u122, u123, u124, u125, u126, u127, u128, u129, u130, u131, u132, u133, u134, u135, u136, u137, u138, u139, u140, u141, u142, u143, u144, u145, u146, u147, u148, u149, u150, u151, u152, u153, u154, u155, u156, u157, u158, u159, u160, u161, u162, u163, u164, u165, u166, u167, u168, u169, u170, u171, u172, u173, u174, u175, u176, u177, u178, u179, u180, u181, u182, u183, u184, u185, u186, u187, u188, u189, u190, v191, v192, v193, v194, v195, v196, v197, v198, v199, v200, v201, v202, v203, v204, v205, v206, v207, v208, v209, v210, v211, v212, v213, v214, v215, v216, v217, v218, v219, u220, u221, u222, u223, u224, u225, u226, u227, u228, u229, u230, u231, u232, u233, u234, u235, u236, u237, u238, u239, u240, u241, u242, u243, u244, u245, u246, u247, u248, u249, u250, u251, u252], []⟩ w') :
    Code.wp Tryz.prog reg29 Q ⟨#[u0, u1, u2, .string s, u4, u5, u6, u7, u8, u9, u10, u11, u12, .pointer (some ⟨bt, 0, none⟩), u14, u15, u16, u17, u18, u19, u20, u21, u22, u23, u24, u25, u26, u27, u28, u29, u30, u31, u32, u33, u34, u35, u36, u37, u38, u39, u40, u41, u42, u43, u44, u45, u46, u47, u48, u49, u50, u51, u52, u53, u54, u55, u56, u57, u58, u59, u60, u61, u62, u63, u64, u65, u66, u67, u68, u69, u70, u71, u72, u73, u74, u75, u76, u77, u78, u79, u80, u81, u82, u83, u84, u85, u86, u87, u88, u89, u90, u91, u92, u93, u94, u95, u96, u97, u98, u99, u100, u101, u102, u103, u104, u105, u106, u107, u108, u109, u110, u111, u112, u113, u114, u115, u116, u117, u118, u119, u120, u121, u122, u123, u124, u125, u126, u127, u128, u129, u130, u131, u132, u133, u134, u135, u136, u137, u138, u139, u140, u141, u142, u143, u144, u145, u146, u147, u148, u149, u150, u151, u152, u153, u154, u155, u156, u157, u158, u159, u160, u161, u162, u163, u164, u165, u166, u167, u168, u169, u170, u171, u172, u173, u174, u175, u176, u177, u178, u179, u180, u181, u182, u183, u184, u185, u186, u187, u188, u189, u190, u191, u192, u193, u194, u195, u196, u197, u198, u199, u200, u201, u202, u203, u204, u205, u206, u207, u208, u209, u210, u211, u212, u213, u214, u215, u216, u217, u218, u219, u220, u221, u222, u223, u224, u225, u226, u227, u228, u229, u230, u231, u232, u233, u234, u235, u236, u237, u238, u239, u240, u241, u242, u243, u244, u245, u246, u247, u248, u249, u250, u251, u252], []⟩ W6 := by
  conv => arg 2; whnf
  have HKK : Hd _ := ⟨hK⟩
  clear hK
  have HB : Hd (lst (s ++ ((((((bs (numberL y.term.kind) ++ bs (placeKeysL [y.term.dest])) ++ bs (keyB y.term.name)) ++ bs (placeKeysL y.term.args)) ++ bs (keysL y.term.blocks)) ++ bs (digL y.term.arms.length)) ++ ({ data := #[97] } : ByteArray))) ++ RT = T) := ⟨by
    rw [← HI3.out]
    simp only [lst_app, lst_bs, List.append_assoc, List.cons_append, List.nil_append, lst_lit, List.toList_toArray]⟩
  have hzz := congrArg List.length HB.out
  simp only [lst_app, lst_bs, List.length_append, lst_lit, List.toList_toArray, List.length_cons, List.length_nil] at hzz
  rw [lst_len] at hzz
  have HC0 : Hd (∀ n : World, _) := ⟨fun n => number_q y.term.kind HTK.out.1 HTK.out.2 n⟩
  have z0 : (bs (numberL y.term.kind)).size = (numberL y.term.kind).length := bs_size _
  obtain ⟨y0, h0⟩ : ∃ z_, bs (numberL y.term.kind) = z_ := ⟨_, rfl⟩
  rw [h0] at HC0 HB z0
  have HC1 : Hd (∀ n : Nat, _) := ⟨fun n => placeOne_at (W := (W6.alloc (.cells #[.string y.term.dest.loc, .slice ob3 lb3 cb3] 24)).drew) (g := W6.heap.size) HTD.out (HKT.out.trans ((Mod.alloc _ _ _).trans (Mod.drew _ _) (fun _ h => Or.inl h)) (fun _ h => Or.inl h)) (by omega) (heap_new' _ _)⟩
  have z1 : (bs (placeKeysL [y.term.dest])).size = (placeKeysL [y.term.dest]).length := bs_size _
  obtain ⟨y1, h1⟩ : ∃ z_, bs (placeKeysL [y.term.dest]) = z_ := ⟨_, rfl⟩
  rw [h1] at HC1 HB z1
  have HC2 : Hd (∀ n : World, _) := ⟨fun n => key_e y.term.name (by omega) n⟩
  have z2 : (bs (keyB y.term.name)).size = (keyB y.term.name).length := bs_size _
  obtain ⟨y2, h2⟩ : ∃ z_, bs (keyB y.term.name) = z_ := ⟨_, rfl⟩
  rw [h2] at HC2 HB z2
  have HC3 : Hd (∀ n : World, _) := ⟨fun n => placeKeys_at HTA.out (by omega) n⟩
  have z3 : (bs (placeKeysL y.term.args)).size = (placeKeysL y.term.args).length := bs_size _
  obtain ⟨y3, h3⟩ : ∃ z_, bs (placeKeysL y.term.args) = z_ := ⟨_, rfl⟩
  rw [h3] at HC3 HB z3
  have HC4 : Hd (∀ n : World, _) := ⟨fun n => keys_at HTB.out (by omega) n⟩
  have z4 : (bs (keysL y.term.blocks)).size = (keysL y.term.blocks).length := bs_size _
  obtain ⟨y4, h4⟩ : ∃ z_, bs (keysL y.term.blocks) = z_ := ⟨_, rfl⟩
  rw [h4] at HC4 HB z4
  have HC5 : Hd (∀ n : World, _) := ⟨fun n => digits_q y.term.arms.length (by omega) n⟩
  have z5 : (bs (digL y.term.arms.length)).size = (digL y.term.arms.length).length := bs_size _
  obtain ⟨y5, h5⟩ : ∃ z_, bs (digL y.term.arms.length) = z_ := ⟨_, rfl⟩
  rw [h5] at HC5 HB z5
  rw [← z0] at hzz
  rw [← z1] at hzz
  rw [← z2] at hzz
  rw [← z3] at hzz
  rw [← z4] at hzz
  rw [← z5] at hzz
  have zz : s.size + (y0.size + y1.size + y2.size + y3.size + y4.size + y5.size + 1) ≤ 1099511627776 := by omega
  clear hzz z0 h0 z1 h1 z2 h2 z3 h3 z4 h4 z5 h5
  have HSF : Hd (∀ w', Mod (fun _ => False) W6 w' → w'.cell? ⟨bt, 1, none⟩ = some (.int .i64 y.term.kind) ∧ w'.cell? ⟨bt, 2, none⟩ = some (.string y.term.dest.loc) ∧ w'.cell? ⟨bt, 3, none⟩ = some (.slice ob3 lb3 cb3) ∧ w'.cell? ⟨bt, 4, none⟩ = some (.string y.term.name) ∧ w'.cell? ⟨bt, 5, none⟩ = some (.slice oc3 y.term.args.length cc3) ∧ w'.cell? ⟨bt, 6, none⟩ = some (.slice od3 y.term.blocks.length cd3) ∧ w'.cell? ⟨bt, 7, none⟩ = some (.slice oe3 y.term.arms.length ce3)) := ⟨fun w' hm => by
    have hb := (hm.block _ (Array.getElem?_eq_some_iff.1 HXT.out).1 (fun h => h)).trans HXT.out
    exact ⟨cell_in hb rfl, cell_in hb rfl, cell_in hb rfl, cell_in hb rfl, cell_in hb rfl, cell_in hb rfl, cell_in hb rfl⟩⟩
  have hs1 : ¬ 9223372036854775807 < y0.size + y1.size := by omega
  have hq1 : (y0 ++ y1).size = y0.size + y1.size := by first | (simp only [size_app]; done) | (simp only [size_app]; rfl)
  have hs2 : ¬ 9223372036854775807 < y0.size + y1.size + y2.size := by omega
  have hq2 : ((y0 ++ y1) ++ y2).size = y0.size + y1.size + y2.size := by first | (simp only [size_app]; done) | (simp only [size_app]; rfl)
  have hs3 : ¬ 9223372036854775807 < y0.size + y1.size + y2.size + y3.size := by omega
  have hq3 : (((y0 ++ y1) ++ y2) ++ y3).size = y0.size + y1.size + y2.size + y3.size := by first | (simp only [size_app]; done) | (simp only [size_app]; rfl)
  have hs4 : ¬ 9223372036854775807 < y0.size + y1.size + y2.size + y3.size + y4.size := by omega
  have hq4 : ((((y0 ++ y1) ++ y2) ++ y3) ++ y4).size = y0.size + y1.size + y2.size + y3.size + y4.size := by first | (simp only [size_app]; done) | (simp only [size_app]; rfl)
  have hs5 : ¬ 9223372036854775807 < y0.size + y1.size + y2.size + y3.size + y4.size + y5.size := by omega
  have hq5 : (((((y0 ++ y1) ++ y2) ++ y3) ++ y4) ++ y5).size = y0.size + y1.size + y2.size + y3.size + y4.size + y5.size := by first | (simp only [size_app]; done) | (simp only [size_app]; rfl)
  have hs6 : ¬ 9223372036854775807 < y0.size + y1.size + y2.size + y3.size + y4.size + y5.size + 1 := by omega
  have hq6 : ((((((y0 ++ y1) ++ y2) ++ y3) ++ y4) ++ y5) ++ ({ data := #[97] } : ByteArray)).size = y0.size + y1.size + y2.size + y3.size + y4.size + y5.size + 1 := by first | (simp only [size_app]; done) | (simp only [size_app]; rfl)
  have hsN : ¬ 9223372036854775807 < s.size + (y0.size + y1.size + y2.size + y3.size + y4.size + y5.size + 1) := by omega
  have TOK0 : True := trivial
  go_region_held3 (fun w' => w'.cell? ⟨bt, 1, none⟩ = some (.int .i64 y.term.kind) ∧ w'.cell? ⟨bt, 2, none⟩ = some (.string y.term.dest.loc) ∧ w'.cell? ⟨bt, 3, none⟩ = some (.slice ob3 lb3 cb3) ∧ w'.cell? ⟨bt, 4, none⟩ = some (.string y.term.name) ∧ w'.cell? ⟨bt, 5, none⟩ = some (.slice oc3 y.term.args.length cc3) ∧ w'.cell? ⟨bt, 6, none⟩ = some (.slice od3 y.term.blocks.length cd3) ∧ w'.cell? ⟨bt, 7, none⟩ = some (.slice oe3 y.term.arms.length ce3)) (first | with_reducible exact HSF.out _ HWwA4.out | with_reducible exact HSF.out _ HWwA3.out | with_reducible exact HSF.out _ HWwA1.out | with_reducible exact HSF.out _ (Mod.drew _ _) | with_reducible exact HSF.out _ ((Mod.alloc _ _ _).trans (Mod.drew _ _) (fun _ h => Or.inl h))) (first
    | (clear TOK0
       go_at_call 58
       refine (Calls.at_ (HC0.out _) (by with_reducible rfl)).mono ?_
       rintro e w' ⟨rfl, rfl⟩
       have TOK1 : True := trivial)
    | (clear TOK1
       go_at_call 59
       refine (Calls.at_ (qui_mod (HC1.out 0)) (by with_reducible rfl)).mono ?_
       rintro e wA1 ⟨rfl, hA⟩
       have HWwA1 : Hd (Mod (fun _ => False) W6 wA1) := ⟨((Mod.alloc _ _ _).trans (Mod.drew _ _) (fun _ h => Or.inl h)).trans hA (fun _ h => Or.inl h)⟩
       clear hA
       have TOK2 : True := trivial)
    | (clear TOK2
       go_at_call 55
       refine (Calls.at_ (HC2.out _) (by with_reducible rfl)).mono ?_
       rintro e w' ⟨rfl, rfl⟩
       have TOK3 : True := trivial)
    | (clear TOK3
       go_at_call 59
       refine (Calls.at_ (qui_mod (HC3.out _ (HKT.out.trans HWwA1.out (fun _ h => Or.inl h)))) (by with_reducible rfl)).mono ?_
       rintro e wA3 ⟨rfl, hA⟩
       have HWwA3 : Hd (Mod (fun _ => False) W6 wA3) := ⟨HWwA1.out.trans hA (fun _ h => Or.inl h)⟩
       clear hA
       have TOK4 : True := trivial)
    | (clear TOK4
       go_at_call 60
       refine (Calls.at_ (qui_mod (HC4.out _ (HKT.out.trans HWwA3.out (fun _ h => Or.inl h)))) (by with_reducible rfl)).mono ?_
       rintro e wA4 ⟨rfl, hA⟩
       have HWwA4 : Hd (Mod (fun _ => False) W6 wA4) := ⟨HWwA3.out.trans hA (fun _ h => Or.inl h)⟩
       clear hA
       have TOK5 : True := trivial)
    | (clear TOK5
       go_at_call 54
       refine (Calls.at_ (HC5.out _) (by with_reducible rfl)).mono ?_
       rintro e w' ⟨rfl, rfl⟩
       have TOK6 : True := trivial))
  all_goals exact HKK.out _ _ _ _ _ _ _ _ _ _ _ _ _ _ _ _ _ _ _ _ _ _ _ _ _ _ _ _ _ _ _ HWwA4 ⟨HB.out⟩
end
end Go.Proofs.YtpodeccpibnlbaaGreatDoor
