/- Part 20 of the texts of the claim: HoE, HoC. -/
import Derived.Test.YtpkldjlljoledaaDoorMh19
import Derived.Test.YtpkldjlljoledaaDoorMh12

/- DriverHolds: its fourth loop. -/
namespace Go.Proofs.YtpkldjlljoledaaDoor
open Go.RowKit
open Calm (bcell Blk)
set_option maxRecDepth 100000 in
set_option maxHeartbeats 16000000 in
theorem holds_e (re le bl ma st lo mm kk rr : Int) (l : List Nat) (Z : List (Int × Int × Int)) (N li re' ie g3 : Nat) (RB IB : Option Addr) (u0 u1 u2 u4 u5 u6 u7 u8 u9 u10 u11 u12 u13 u14 u15 u16 u17 u18 u19 u20 u21 u22 u25 u26 u27 u28 u29 u31 u32 u33 u34 u35 u36 u37 u38 u39 u40 u41 u42 u43 u44 u45 u46 u47 u48 u49 u50 u51 u52 u53 u54 u55 u56 u57 u58 u59 u60 u61 u62 u63 u64 u65 u66 u67 u68 u69 u70 u71 u72 u73 u74 u75 u76 u77 u78 u79 u80 u81 u82 u83 u84 u85 u86 u87 u88 u89 u90 u91 u92 u93 u94 u95 u96 u97 u98 u99 u100 u101 u102 u103 u104 u105 u106 u107 u108 u109 u110 u111 u112 u113 u114 u115 u116 u117 u118 u119 u120 u121 u122 u123 u124 u125 u126 u127 u128 u129 u130 u131 u132 u133 u134 u135 u136 u137 u138 u139 u140 u141 u142 u143 u144 u145 u146 u147 u148 u149 u150 u151 u152 u153 u154 u155 u156 u157 u158 u159 u160 u161 u162 u163 u164 u165 u166 u167 u168 u169 u170 u171 u172 u173 u174 u175 u176 u177 u178 u179 u180 u181 u182 u183 u184 u185 u186 u187 u188 u189 u190 u191 u192 u193 u194 u195 u196 u197 u198 u199 u200 u201 u202 u203 u204 u205 u206 u207 u208 u209 u210 u211 u212 u213 u214 u215 u216 u217 u218 u219 u220 u221 u222 u223 u224 u225 u226 u227 u228 u229 u230 u231 u232 u233 u234 u235 u236 u237 u238 u239 u240 u241 u242 u243 u244 u245 u246 u247 u248 u249 u250 u251 u252 u253 u254 u255 u256 u257 u258 u259 u260 u261 u262 u263 u264 u265 u266 u267 u268 u269 u270 u271 u272 u273 u274 u275 u276 u277 u278 u279 u280 u281 u282 u283 u284 u285 u286 u287 u288 u289 u290 u291 u292 u293 u294 u295 u296 u297 u298 u299 u300 u301 u302 u303 u304 u305 u306 u307 u308 u309 u310 u311 u312 u313 u314 u315 u316 u317 u318 u319 u320 u321 u322 u323 u324 u325 u326 u327 u328 u329 u330 u331 u332 u333 u334 u335 u336 u337 u338 u339 u340 u341 u342 u343 u344 u345 u346 u347 u348 u349 u350 u351 u352 u353 u354 u355 u356 u357 u358 u359 u360 u361 u362 u363 u364 u365 u366 u367 u368 u369 u370 u371 : Value) (w : World) (hL : Lim w)
    (HC : Hid (Blk w g3 #[(.int .i64 (re)), (.int .i64 (le)), (.int .i64 (bl)), (.int .i64 (ma)), (.int .i64 (st)), (.int .i64 (lo)), (.int .i64 (mm)), (.int .i64 (kk)), (.int .i64 (rr))])) (HR : Hid (RCells w RB Z)) (HZ : Hid (N = Z.length)) (HI : Hid (Cells w IB (toI l))) (HLI : Hid (li = l.length)) (HINC : Hid (Inc N 0 l)) (hN : N ≤ 6) (hli : li ≤ 6)
    (HRG : Hid (∀ n : Int, -1 ≤ n → n < li → ∀ (W : World) (B : Option Addr) (e : Nat), Lim W → RCells W B (someL Z (skipL l n li)) → Calls Tryd.prog 63 #[.agg #[(.int .i64 (re)), (.int .i64 (le)), (.int .i64 (bl)), (.int .i64 (ma)), (.int .i64 (st)), (.int .i64 (lo)), (.int .i64 (mm)), (.int .i64 (kk)), (.int .i64 (rr))], .slice B (skipL l n li).length e] W fun r w' => ∃ B' e' q, r = .returned (.tuple #[.slice B' q e', (.int .i64 (0))]) ∧ (q = 0 ↔ n < 0) ∧ q ≤ 1000000 ∧ Below W.heap.size W w'))
    (K : Act → World → Prop) (Q : Exit → Act → World → Prop)
    (HK : Hid (∀ (W : World) (c30 c6 c31 c32 c33 c34 c35 c331 c332 c333 c334 c335 c336 c337 c338 c339 c340 c341 c342 c343 c344 c345 c346 c347 c348 c349 c350 c351 c352 c353 c354 c355 c356 c357 c358 c359 c360 c361 c362 c363 c364 c365 c366 c367 c368 c369 c370 c371 : Value), Below w.heap.size w W → K { tmps := #[u0, u1, u2, .pointer (some ⟨g3, 0, none⟩), u4, u5, c6, u7, u8, u9, u10, u11, u12, u13, u14, u15, u16, u17, u18, u19, u20, u21, u22, .slice RB N re', .slice IB li ie, u25, u26, u27, u28, u29, c30, c31, c32, c33, c34, c35, u36, u37, u38, u39, u40, u41, u42, u43, u44, u45, u46, u47, u48, u49, u50, u51, u52, u53, u54, u55, u56, u57, u58, u59, u60, u61, u62, u63, u64, u65, u66, u67, u68, u69, u70, u71, u72, u73, u74, u75, u76, u77, u78, u79, u80, u81, u82, u83, u84, u85, u86, u87, u88, u89, u90, u91, u92, u93, u94, u95, u96, u97, u98, u99, u100, u101, u102, u103, u104, u105, u106, u107, u108, u109, u110, u111, u112, u113, u114, u115, u116, u117, u118, u119, u120, u121, u122, u123, u124, u125, u126, u127, u128, u129, u130, u131, u132, u133, u134, u135, u136, u137, u138, u139, u140, u141, u142, u143, u144, u145, u146, u147, u148, u149, u150, u151, u152, u153, u154, u155, u156, u157, u158, u159, u160, u161, u162, u163, u164, u165, u166, u167, u168, u169, u170, u171, u172, u173, u174, u175, u176, u177, u178, u179, u180, u181, u182, u183, u184, u185, u186, u187, u188, u189, u190, u191, u192, u193, u194, u195, u196, u197, u198, u199, u200, u201, u202, u203, u204, u205, u206, u207, u208, u209, u210, u211, u212, u213, u214, u215, u216, u217, u218, u219, u220, u221, u222, u223, u224, u225, u226, u227, u228, u229, u230, u231, u232, u233, u234, u235, u236, u237, u238, u239, u240, u241, u242, u243, u244, u245, u246, u247, u248, u249, u250, u251, u252, u253, u254, u255, u256, u257, u258, u259, u260, u261, u262, u263, u264, u265, u266, u267, u268, u269, u270, u271, u272, u273, u274, u275, u276, u277, u278, u279, u280, u281, u282, u283, u284, u285, u286, u287, u288, u289, u290, u291, u292, u293, u294, u295, u296, u297, u298, u299, u300, u301, u302, u303, u304, u305, u306, u307, u308, u309, u310, u311, u312, u313, u314, u315, u316, u317, u318, u319, u320, u321, u322, u323, u324, u325, u326, u327, u328, u329, u330, c331, c332, c333, c334, c335, c336, c337, c338, c339, c340, c341, c342, c343, c344, c345, c346, c347, c348, c349, c350, c351, c352, c353, c354, c355, c356, c357, c358, c359, c360, c361, c362, c363, c364, c365, c366, c367, c368, c369, c370, c371], defers := [] } W)) :
    (Code.loop (holdsLoop 3)).wp Tryd.prog (Exit.inBlock 6 (Exit.then K Q)) { tmps := #[u0, u1, u2, .pointer (some ⟨g3, 0, none⟩), u4, u5, u6, u7, u8, u9, u10, u11, u12, u13, u14, u15, u16, u17, u18, u19, u20, u21, u22, .slice RB N re', .slice IB li ie, u25, u26, u27, u28, u29, (.int .i64 (-1)), u31, u32, u33, u34, u35, u36, u37, u38, u39, u40, u41, u42, u43, u44, u45, u46, u47, u48, u49, u50, u51, u52, u53, u54, u55, u56, u57, u58, u59, u60, u61, u62, u63, u64, u65, u66, u67, u68, u69, u70, u71, u72, u73, u74, u75, u76, u77, u78, u79, u80, u81, u82, u83, u84, u85, u86, u87, u88, u89, u90, u91, u92, u93, u94, u95, u96, u97, u98, u99, u100, u101, u102, u103, u104, u105, u106, u107, u108, u109, u110, u111, u112, u113, u114, u115, u116, u117, u118, u119, u120, u121, u122, u123, u124, u125, u126, u127, u128, u129, u130, u131, u132, u133, u134, u135, u136, u137, u138, u139, u140, u141, u142, u143, u144, u145, u146, u147, u148, u149, u150, u151, u152, u153, u154, u155, u156, u157, u158, u159, u160, u161, u162, u163, u164, u165, u166, u167, u168, u169, u170, u171, u172, u173, u174, u175, u176, u177, u178, u179, u180, u181, u182, u183, u184, u185, u186, u187, u188, u189, u190, u191, u192, u193, u194, u195, u196, u197, u198, u199, u200, u201, u202, u203, u204, u205, u206, u207, u208, u209, u210, u211, u212, u213, u214, u215, u216, u217, u218, u219, u220, u221, u222, u223, u224, u225, u226, u227, u228, u229, u230, u231, u232, u233, u234, u235, u236, u237, u238, u239, u240, u241, u242, u243, u244, u245, u246, u247, u248, u249, u250, u251, u252, u253, u254, u255, u256, u257, u258, u259, u260, u261, u262, u263, u264, u265, u266, u267, u268, u269, u270, u271, u272, u273, u274, u275, u276, u277, u278, u279, u280, u281, u282, u283, u284, u285, u286, u287, u288, u289, u290, u291, u292, u293, u294, u295, u296, u297, u298, u299, u300, u301, u302, u303, u304, u305, u306, u307, u308, u309, u310, u311, u312, u313, u314, u315, u316, u317, u318, u319, u320, u321, u322, u323, u324, u325, u326, u327, u328, u329, u330, u331, u332, u333, u334, u335, u336, u337, u338, u339, u340, u341, u342, u343, u344, u345, u346, u347, u348, u349, u350, u351, u352, u353, u354, u355, u356, u357, u358, u359, u360, u361, u362, u363, u364, u365, u366, u367, u368, u369, u370, u371], defers := [] } w := by
  obtain ⟨i0, hi, iz0, iz1, iz2⟩ := info_parts Tryd.infoR
  conv => arg 2; arg 1; whnf
  conv => arg 4; dsimp only
  go_loopw [30] (fun v wr => ∃ n : Int, -1 ≤ n ∧ n ≤ li ∧ v = (.int .i64 (n)) ∧ Below w.heap.size w wr) (fun v _ => ((li : Int) - intOf v).toNat)
  case atStart => exact ⟨-1, by omega, by omega, rfl, Below.refl _ _⟩
  case round =>
    obtain ⟨n, hn1, hn2, rfl, hBr⟩ := hrel
    have hsz := hBr.size
    have HBR := Lib.hid hBr; clear hBr
    by_cases hlt : n < (li : Int)
    · go_wp2
      refine name_world ?_
      intro w2 e2
      have hB2 : Below w.heap.size w w2 := e2.symm ▸ HBR.out
      clear e2 HBR hsz
      have hsz2 := hB2.size
      have HB2 := Lib.hid hB2; clear hB2
      go_loopw [31, 339] (fun v i wi => ∃ j : Nat, j ≤ li ∧ i = (.int .i64 (j)) ∧ wi.ownsRow w2.heap.size 126 3 v (skipL l n j).length (flat3 (someL Z (skipL l n j))) ∧ Below w2.heap.size w2 wi) (fun _ i _ => li - (intOf i).toNat)
      case atStart => exact ⟨0, Nat.zero_le _, rfl, World.ownsRow_nil _ _ _ _, Below.refl _ _⟩
      case round =>
        obtain ⟨j, hj, rfl, ho, hBi⟩ := hrel
        have HO := Lib.hid ho
        have hsi := hBi.size
        have HBI := Lib.hid hBi
        clear ho
        by_cases hjl : j < li
        · have hlt2 : j < l.length := by rw [← HLI.out]; exact hjl
          obtain ⟨_, q2, _⟩ := HINC.out.get j hlt2
          obtain ⟨b, o, eI, l1, k1⟩ := (HI.out.below (HB2.out.trans (hBi.mono HB2.out.size))) (by rw [toI_len]; omega)
          have c1 := k1 j (by rw [toI_len]; exact hlt2)
          rw [toI_get hlt2] at c1
          obtain ⟨x, hx⟩ : ∃ x, x = l.getD j 0 := ⟨_, rfl⟩
          rw [← hx] at c1 q2
          have HX := Lib.hid hx
          subst eI
          clear k1 hlt2 hx
          obtain ⟨b2, o2, eR, l2, k2⟩ := (HR.out.below (HB2.out.trans (hBi.mono HB2.out.size))) (by rw [← HZ.out]; omega)
          obtain ⟨x1, x2, x3⟩ := k2 x (by rw [← HZ.out]; exact q2)
          obtain ⟨⟨z1, z2, z3⟩, hz⟩ : ∃ z, z = Z.getD x (0, 0, 0) := ⟨_, rfl⟩
          rw [← hz] at x1 x2 x3
          simp only [] at x1 x2 x3
          have HZE := Lib.hid hz
          clear hz k2 hBi
          subst eR
          by_cases hjn : (j : Int) = n
          · have HS := Lib.hid (skipL_at l n j hjn)
            have hjn2 : ¬ (j : Int) ≠ n := fun h => h hjn
            have HJN := Lib.hid hjn
            have hq : ((j : Int) == n) = true := by simpa using hjn
            have hq2 : ((j : Int) != n) = false := by simp [hjn]
            clear hjn hjn2
            go_wp2
            go_roundw
            case rel => exact ⟨j + 1, by omega, by go_num, by rw [HS.out]; exact HO.out, HBI.out⟩
            case measure => simp [intOf]; omega
          · have HS := Lib.hid (skipL_other l n j hjn)
            have hq : ((j : Int) == n) = false := by simpa using hjn
            have hq2 : ((j : Int) != n) = true := by simp [hjn]
            clear hjn
            go_wp2_with (at_builtin; refine wpList_append_own _ rfl _ _ 110 rfl w2.heap.size 126 i0 _ 3 24 Tryd.underlying110 hi iz0 iz1 iz2 rfl (by decide) _ _ _ rfl (HO.out.alloc _) ⟨wr.heap.size, 0, none⟩ 1 1 [(.int .i64 (z1)), (.int .i64 (z2)), (.int .i64 (z3))] rfl rfl ?c1 ?c2 ?c3 ?c4 ?c5 ?_)
            case c1 =>
              intro j u hj
              match j, hj with
              | 0, hj => simp at hj; subst hj; simp [Addr.add]
              | 1, hj => simp at hj; subst hj; simp [Addr.add]
              | 2, hj => simp at hj; subst hj; simp [Addr.add]
            case c2 => intro u hu; simp at hu; rcases hu with rfl | rfl | rfl <;> rfl
            case c3 => have := skipL_len l n j; unfold maxLen; omega
            case c4 => have := skipL_len l n j; omega
            case c5 => simp; omega
            intro v' w3 hown' hgrow _
            have hB' : Below w2.heap.size w2 w3 := (HBI.out.alloc hsi _).grown hgrow (by simp; omega) (fun j hj => (HO.out.lt j hj).1)
            have HO2 := Lib.hid hown'
            clear hgrow hown'
            go_wp2
            go_roundw
            case rel =>
              refine ⟨j + 1, by omega, by go_num, ?_, hB'⟩
              rw [HS.out, List.length_append, List.length_singleton]
              have e : flat3 (someL Z (skipL l n j ++ [l.getD j 0])) = flat3 (someL Z (skipL l n j)) ++ [(.int .i64 (z1)), (.int .i64 (z2)), (.int .i64 (z3))] := by
                rw [← HX.out]; unfold someL; rw [List.map_append, flat3_append]; simp only [List.map_cons, List.map_nil, ← HZE.out]; simp [flat3]
              rw [e]; exact HO2.out
            case measure => simp [intOf]; omega
        · obtain rfl : j = li := by omega
          obtain ⟨LB, le', rfl, _, hr⟩ := own_reads HO.out (by unfold someL; rw [List.length_map])
          have HR2 := Lib.hid hr
          have hlen := skipL_len l n j
          have hB3 := HB2.out.trans (HBI.out.mono HB2.out.size)
          have hL3 := hL.below hB3
          have KC := HC.out.below hB3
          obtain ⟨f0, f1, f2, f3, f4, f5, f6, f7, f8, fl, ff⟩ := KC.o9
          have HB3 := Lib.hid hB3
          have HREG := Lib.hid (HRG.out n hn1 hlt)
          obtain ⟨s, hs⟩ : ∃ s, s = (skipL l n j).length := ⟨_, rfl⟩
          have HSE := HREG.out
          rw [← hs] at HSE hlen ⊢
          have HRE := Lib.hid HSE
          clear hr HO HREG HSE hBi hB3 KC hs
          go_wp2_with (go_at_call 64; refine (class_any _ _ _ _ _ _ _ _ _ _).mono ?_; rintro r w4 ⟨rfl, h4⟩; refine Hid.out ?_)
          unfold Hid
          go_wp2_with (go_at_call 63; refine (HRE.out _ _ _ (hL3.below h4) (HR2.out.below h4)).mono ?_; rintro r w5 ⟨DB, de, q, rfl, hq, hqb, h5⟩; refine Hid.out ?_)
          unfold Hid
          have HB5 := HB3.out.trans ((h4.trans (h5.mono h4.size)).mono HB3.out.size)
          clear f0 f1 f2 f3 f4 f5 f6 f7 f8 ff
          by_cases hneg : n < 0
          · obtain rfl : q = 0 := hq.2 hneg
            clear hq
            go_wp2
            go_roundw
            case rel => exact ⟨n + 1, by omega, by omega, rfl, HB5⟩
            case measure => simp [intOf]; omega
          · have hq0 : ¬ q = 0 := fun h => hneg (hq.1 h)
            have hq1 : ((q : Int) == 0) = false := by simpa using hq0
            have hneg2 : decide (n < 0) = false := by simpa using hneg
            clear hq
            go_wp2
            go_roundw
            case rel => exact ⟨n + 1, by omega, by omega, rfl, HB5⟩
            case measure => simp [intOf]; omega
    · obtain rfl : n = (li : Int) := by omega
      go_wp2
      apply HK.out
      exact HBR.out
end Go.Proofs.YtpkldjlljoledaaDoor

/- DriverHolds: behind its first loop. -/
namespace Go.Proofs.YtpkldjlljoledaaDoor
open Go.RowKit
open Calm (bcell Blk)
/-- a slice that holds these readings. -/
def RdS (n : Nat) (zs : List (Int × Int × Int)) (u : Value) (W : World) : Prop := ∃ B e, u = .slice B n e ∧ RCells W B zs
theorem RdS.stable (n : Nat) (zs : List (Int × Int × Int)) : Rel.Stable (RdS n zs) := fun u W W' ⟨B, e, h1, h2⟩ hb => ⟨B, e, h1, h2.below hb⟩
theorem own_empty {W : World} {e : TypeId} {size : Nat} {g : Nat} (h : g = W.heap.size) : (W.alloc (.cells #[] e)).ownsRow W.heap.size e size (.slice (some ⟨g, 0, none⟩) 0 0) 0 [] :=
  by subst h; exact ⟨by simp, .inr ⟨_, 0, #[], rfl, Nat.le_refl _, heap_new rfl, Nat.le_refl _, Nat.zero_le _, by simp, by simp⟩⟩
set_option maxRecDepth 100000 in
set_option maxHeartbeats 16000000 in
theorem holds_c (re le bl ma st lo mm kk rr a0 a1 a2 a3 E : Int) (l : List Nat) (S zs Z Ds : List (Int × Int × Int)) (m n N li q eS c g3 g5 : Nat) (BS A2 : Option Addr) (u0 u1 u2 u4 u6 u7 u8 u10 u11 u12 u13 u14 u15 u16 u18 u19 u20 u21 u22 u23 u24 u25 u26 u27 u28 u29 u30 u31 u32 u33 u34 u35 u36 u37 u38 u39 u40 u41 u42 u43 u44 u45 u46 u47 u48 u49 u50 u51 u52 u53 u54 u55 u56 u57 u58 u59 u60 u61 u62 u63 u64 u65 u66 u67 u68 u69 u70 u71 u72 u73 u74 u75 u76 u77 u78 u79 u80 u81 u82 u83 u84 u85 u86 u87 u88 u89 u90 u91 u92 u93 u94 u95 u96 u97 u98 u99 u100 u101 u102 u103 u104 u105 u106 u107 u108 u109 u110 u111 u112 u113 u114 u115 u116 u117 u118 u119 u120 u121 u122 u123 u124 u125 u126 u127 u128 u129 u130 u131 u132 u133 u134 u135 u136 u137 u138 u139 u140 u141 u142 u143 u144 u145 u146 u147 u148 u149 u150 u151 u152 u153 u154 u155 u156 u157 u158 u159 u160 u161 u162 u163 u164 u165 u166 u167 u168 u169 u170 u171 u172 u173 u174 u175 u176 u177 u178 u179 u180 u181 u182 u183 u184 u185 u186 u187 u188 u189 u190 u191 u192 u193 u194 u195 u196 u197 u198 u199 u200 u201 u202 u203 u204 u205 u206 u207 u208 u209 u210 u211 u212 u213 u214 u215 u216 u217 u218 u219 u220 u221 u222 u223 u224 u225 u226 u227 u228 u229 u230 u231 u232 u233 u234 u235 u236 u237 u238 u239 u240 u241 u242 u243 u244 u245 u246 u247 u248 u249 u250 u251 u252 u253 u254 u255 u256 u257 u258 u259 u260 u261 u262 u263 u264 u265 u266 u267 u268 u269 u270 u271 u272 u273 u274 u275 u276 u277 u278 u279 u280 u281 u282 u283 u284 u285 u286 u287 u288 u289 u290 u291 u292 u293 u294 u295 u296 u297 u298 u299 u300 u301 u302 u303 u304 u305 u306 u307 u308 u309 u310 u311 u312 u313 u314 u315 u316 u317 u318 u319 u320 u321 u322 u323 u324 u325 u326 u327 u328 u329 u330 u331 u332 u333 u334 u335 u336 u337 u338 u339 u340 u341 u342 u343 u344 u345 u346 u347 u348 u349 u350 u351 u352 u353 u354 u355 u356 u357 u358 u359 u360 u361 u362 u363 u364 u365 u366 u367 u368 u369 u370 u371 : Value) (w : World) (hL : Lim w)
    (KC0 : Hid (Blk w g3 #[(.int .i64 (re)), (.int .i64 (le)), (.int .i64 (bl)), (.int .i64 (ma)), (.int .i64 (st)), (.int .i64 (lo)), (.int .i64 (mm)), (.int .i64 (kk)), (.int .i64 (rr))])) (KX0 : Hid (Blk w g5 #[.slice A2 n c, .int .u8 a0, .int .u8 a1, .int .u8 a2, .int .u8 a3])) (HSC : Hid (RCells w BS S)) (HzC : Hid (RCells w A2 zs)) (HSL : Hid (m = S.length)) (HzL : Hid (n = zs.length)) (HZ : Hid (Z = S ++ zs)) (HNm : Hid (m + n = N)) (hm : m ≤ 3) (hn : n ≤ 3) (hN : N ≤ 6) (hq : q ≤ 1000000)
    (HRd : Hid (∀ (W : World) (B : Option Addr) (e : Nat), RCells W B zs → Calls Tryd.prog 66 #[.slice B n e] W fun r w' => ∃ B' e', r = .returned (.slice B' n e') ∧ RCells w' B' zs ∧ Below W.heap.size W w'))
    (HCf : Hid (∀ (W : World) (B : Option Addr) (e : Nat), Lim W → RCells W B Z → Calls Tryd.prog 67 #[.agg #[(.int .i64 (re)), (.int .i64 (le)), (.int .i64 (bl)), (.int .i64 (ma)), (.int .i64 (st)), (.int .i64 (lo)), (.int .i64 (mm)), (.int .i64 (kk)), (.int .i64 (rr))], .slice B N e] W fun r w' => ∃ B' e', r = .returned (.tuple #[.slice B' li e', (.int .i64 (E))]) ∧ Cells w' B' (toI l) ∧ Below W.heap.size W w'))
    (HRz : Hid (∀ (W : World) (B : Option Addr) (e : Nat), Lim W → RCells W B Z → Calls Tryd.prog 63 #[.agg #[(.int .i64 (re)), (.int .i64 (le)), (.int .i64 (bl)), (.int .i64 (ma)), (.int .i64 (st)), (.int .i64 (lo)), (.int .i64 (mm)), (.int .i64 (kk)), (.int .i64 (rr))], .slice B N e] W fun r w' => ∃ B' e', r = .returned (.tuple #[.slice B' q e', (.int .i64 (0))]) ∧ DCells w' B' re le bl Ds ∧ Below W.heap.size W w'))
    (HCASE : Hid ((0 < q ∧ E = 7) ∨ (q = 0 ∧ E = 0 ∧ 0 < li ∧ li ≤ N ∧ Hid (li = l.length) ∧ Hid (Inc N 0 l) ∧
      Hid (∀ n : Int, -1 ≤ n → n < li → ∀ (W : World) (B : Option Addr) (e : Nat), Lim W → RCells W B (someL Z (skipL l n li)) → Calls Tryd.prog 63 #[.agg #[(.int .i64 (re)), (.int .i64 (le)), (.int .i64 (bl)), (.int .i64 (ma)), (.int .i64 (st)), (.int .i64 (lo)), (.int .i64 (mm)), (.int .i64 (kk)), (.int .i64 (rr))], .slice B (skipL l n li).length e] W fun r w' => ∃ B' e' q, r = .returned (.tuple #[.slice B' q e', (.int .i64 (0))]) ∧ (q = 0 ↔ n < 0) ∧ q ≤ 1000000 ∧ Below W.heap.size W w'))))
    (Q : Exit → Act → World → Prop)
    (HQ : Hid (∀ (W : World) (c0 c1 c2 c3 c4 c5 c7 c8 c9 c10 c11 c12 c13 c14 c15 c16 c17 c18 c19 c20 c21 c22 c23 c24 c25 c26 c27 c28 c29 c30 c31 c32 c33 c34 c35 c36 c37 c38 c39 c40 c41 c42 c43 c44 c45 c46 c47 c48 c49 c50 c51 c52 c53 c54 c55 c56 c57 c58 c59 c60 c61 c62 c63 c64 c65 c66 c67 c68 c69 c70 c71 c72 c73 c74 c75 c76 c77 c78 c79 c80 c81 c82 c83 c84 c85 c86 c87 c88 c89 c90 c91 c92 c93 c94 c95 c96 c97 c98 c99 c100 c101 c102 c103 c104 c105 c106 c107 c108 c109 c110 c111 c112 c113 c114 c115 c116 c117 c118 c119 c120 c121 c122 c123 c124 c125 c126 c127 c128 c129 c130 c131 c132 c133 c134 c135 c136 c137 c138 c139 c140 c141 c142 c143 c144 c145 c146 c147 c148 c149 c150 c151 c152 c153 c154 c155 c156 c157 c158 c159 c160 c161 c162 c163 c164 c165 c166 c167 c168 c169 c170 c171 c172 c173 c174 c175 c176 c177 c178 c179 c180 c181 c182 c183 c184 c185 c186 c187 c188 c189 c190 c191 c192 c193 c194 c195 c196 c197 c198 c199 c200 c201 c202 c203 c204 c205 c206 c207 c208 c209 c210 c211 c212 c213 c214 c215 c216 c217 c218 c219 c220 c221 c222 c223 c224 c225 c226 c227 c228 c229 c230 c231 c232 c233 c234 c235 c236 c237 c238 c239 c240 c241 c242 c243 c244 c245 c246 c247 c248 c249 c250 c251 c252 c253 c254 c255 c256 c257 c258 c259 c260 c261 c262 c263 c264 c265 c266 c267 c268 c269 c270 c271 c272 c273 c274 c275 c276 c277 c278 c279 c280 c281 c282 c283 c284 c285 c286 c287 c288 c289 c290 c291 c292 c293 c294 c295 c296 c297 c298 c299 c300 c301 c302 c303 c304 c305 c306 c307 c308 c309 c310 c311 c312 c313 c314 c315 c316 c317 c318 c319 c320 c321 c322 c323 c324 c325 c326 c327 c328 c329 c330 c331 c332 c333 c334 c335 c336 c337 c338 c339 c340 c341 c342 c343 c344 c345 c346 c347 c348 c349 c350 c351 c352 c353 c354 c355 c356 c357 c358 c359 c360 c361 c362 c363 c364 c365 c366 c367 c368 c369 c370 c371 : Value), Below w.heap.size w W → Q .ret { tmps := #[c0, c1, c2, c3, c4, c5, .bool true, c7, c8, c9, c10, c11, c12, c13, c14, c15, c16, c17, c18, c19, c20, c21, c22, c23, c24, c25, c26, c27, c28, c29, c30, c31, c32, c33, c34, c35, c36, c37, c38, c39, c40, c41, c42, c43, c44, c45, c46, c47, c48, c49, c50, c51, c52, c53, c54, c55, c56, c57, c58, c59, c60, c61, c62, c63, c64, c65, c66, c67, c68, c69, c70, c71, c72, c73, c74, c75, c76, c77, c78, c79, c80, c81, c82, c83, c84, c85, c86, c87, c88, c89, c90, c91, c92, c93, c94, c95, c96, c97, c98, c99, c100, c101, c102, c103, c104, c105, c106, c107, c108, c109, c110, c111, c112, c113, c114, c115, c116, c117, c118, c119, c120, c121, c122, c123, c124, c125, c126, c127, c128, c129, c130, c131, c132, c133, c134, c135, c136, c137, c138, c139, c140, c141, c142, c143, c144, c145, c146, c147, c148, c149, c150, c151, c152, c153, c154, c155, c156, c157, c158, c159, c160, c161, c162, c163, c164, c165, c166, c167, c168, c169, c170, c171, c172, c173, c174, c175, c176, c177, c178, c179, c180, c181, c182, c183, c184, c185, c186, c187, c188, c189, c190, c191, c192, c193, c194, c195, c196, c197, c198, c199, c200, c201, c202, c203, c204, c205, c206, c207, c208, c209, c210, c211, c212, c213, c214, c215, c216, c217, c218, c219, c220, c221, c222, c223, c224, c225, c226, c227, c228, c229, c230, c231, c232, c233, c234, c235, c236, c237, c238, c239, c240, c241, c242, c243, c244, c245, c246, c247, c248, c249, c250, c251, c252, c253, c254, c255, c256, c257, c258, c259, c260, c261, c262, c263, c264, c265, c266, c267, c268, c269, c270, c271, c272, c273, c274, c275, c276, c277, c278, c279, c280, c281, c282, c283, c284, c285, c286, c287, c288, c289, c290, c291, c292, c293, c294, c295, c296, c297, c298, c299, c300, c301, c302, c303, c304, c305, c306, c307, c308, c309, c310, c311, c312, c313, c314, c315, c316, c317, c318, c319, c320, c321, c322, c323, c324, c325, c326, c327, c328, c329, c330, c331, c332, c333, c334, c335, c336, c337, c338, c339, c340, c341, c342, c343, c344, c345, c346, c347, c348, c349, c350, c351, c352, c353, c354, c355, c356, c357, c358, c359, c360, c361, c362, c363, c364, c365, c366, c367, c368, c369, c370, c371], defers := [] } W)) :
    (holdsRest 0).wp Tryd.prog Q { tmps := #[u0, u1, u2, .pointer (some ⟨g3, 0, none⟩), u4, .pointer (some ⟨g5, 0, none⟩), u6, u7, u8, .slice BS m eS, u10, u11, u12, u13, u14, u15, u16, .bool true, u18, u19, u20, u21, u22, u23, u24, u25, u26, u27, u28, u29, u30, u31, u32, u33, u34, u35, u36, u37, u38, u39, u40, u41, u42, u43, u44, u45, u46, u47, u48, u49, u50, u51, u52, u53, u54, u55, u56, u57, u58, u59, u60, u61, u62, u63, u64, u65, u66, u67, u68, u69, u70, u71, u72, u73, u74, u75, u76, u77, u78, u79, u80, u81, u82, u83, u84, u85, u86, u87, u88, u89, u90, u91, u92, u93, u94, u95, u96, u97, u98, u99, u100, u101, u102, u103, u104, u105, u106, u107, u108, u109, u110, u111, u112, u113, u114, u115, u116, u117, u118, u119, u120, u121, u122, u123, u124, u125, u126, u127, u128, u129, u130, u131, u132, u133, u134, u135, u136, u137, u138, u139, u140, u141, u142, u143, u144, u145, u146, u147, u148, u149, u150, u151, u152, u153, u154, u155, u156, u157, u158, u159, u160, u161, u162, u163, u164, u165, u166, u167, u168, u169, u170, u171, u172, u173, u174, u175, u176, u177, u178, u179, u180, u181, u182, u183, u184, u185, u186, u187, u188, u189, u190, u191, u192, u193, u194, u195, u196, u197, u198, u199, u200, u201, u202, u203, u204, u205, u206, u207, u208, u209, u210, u211, u212, u213, u214, u215, u216, u217, u218, u219, u220, u221, u222, u223, u224, u225, u226, u227, u228, u229, u230, u231, u232, u233, u234, u235, u236, u237, u238, u239, u240, u241, u242, u243, u244, u245, u246, u247, u248, u249, u250, u251, u252, u253, u254, u255, u256, u257, u258, u259, u260, u261, u262, u263, u264, u265, u266, u267, u268, u269, u270, u271, u272, u273, u274, u275, u276, u277, u278, u279, u280, u281, u282, u283, u284, u285, u286, u287, u288, u289, u290, u291, u292, u293, u294, u295, u296, u297, u298, u299, u300, u301, u302, u303, u304, u305, u306, u307, u308, u309, u310, u311, u312, u313, u314, u315, u316, u317, u318, u319, u320, u321, u322, u323, u324, u325, u326, u327, u328, u329, u330, u331, u332, u333, u334, u335, u336, u337, u338, u339, u340, u341, u342, u343, u344, u345, u346, u347, u348, u349, u350, u351, u352, u353, u354, u355, u356, u357, u358, u359, u360, u361, u362, u363, u364, u365, u366, u367, u368, u369, u370, u371], defers := [] } w := by
  obtain ⟨i0, hi, iz0, iz1, iz2⟩ := info_parts Tryd.infoR
  have hB0 := Below.refl w.heap.size w
  have KCw := KC0
  conv => arg 2; whnf
  conv => arg 4; dsimp only
  obtain ⟨fX_0, fX_1, fX_2, fX_3, fX_4, fX_l, fX_f⟩ := KX0.out.o5
  have fX_l0_1 : g5 < w.heap.size + 1 := by omega
  have fX_l0_2 : g5 < w.heap.size + 1 + 1 := by omega
  go_wp2
  refine Rel.region3 6 (by kernel_rfl) (by kernel_rfl) (by kernel_rfl) ?_
  simp only [List.take_succ_cons, List.take_zero, List.drop_succ_cons, List.drop_zero, List.filterMap_cons, List.filterMap_nil]
  (apply Rel.empty3 126 3; (focus (first | exact Rel.gno rfl | exact Rel.gyes _ true _ rfl rfl rfl | exact Rel.gyes _ false _ rfl rfl rfl)); (focus (intro a W; go_simp; (first | done | rfl | (refine ⟨?_, ?_⟩ <;> rfl)))); (try simp only [List.nil_append, List.cons_append]))
  iterate 1 (apply Rel.op3; (focus (first | exact Rel.gno rfl | exact Rel.gyes _ true _ rfl rfl rfl | exact Rel.gyes _ false _ rfl rfl rfl)); (focus (intro a W hb hd hbase; obtain ⟨hc, hf⟩ := bcell hb; clear hb hf; simp [Rel.deps, Rel.dep1, Rel.ons, Region.binds, Act.eval] at hd; simp only [Act.eval, List.mem_cons, List.not_mem_nil, not_or, and_imp, or_false, Array.getD_eq_getD_getElem?] at hbase; go_simp; (try go_bits); (try rfl); done)); (try simp only [List.nil_append, List.cons_append]))
  refine Rel.app3 (.tmp 256) (.tmp 257) 110 rfl 126 i0 _ 3 24 Tryd.underlying110 hi iz0 iz1 iz2 rfl (by decide) m (flat3 S) (by rw [flat3_len, ← HSL.out]) (flat3_one _) (by unfold maxLen; omega) (by omega) (Rel.gno rfl) ?_ ?_
  · intro a W hb hd hbase
    simp [Rel.deps, Rel.dep1, Rel.ons, Region.binds] at hd
    obtain ⟨hs, hx⟩ := hd
    exact ⟨⟨_, rfl, by simpa using hs⟩, _, _, hx, reads_at (HSC.out.below hb) m HSL.out⟩
  (try simp only [List.nil_append, List.cons_append])
  iterate 2 (apply Rel.op3; (focus (first | exact Rel.gno rfl | exact Rel.gyes _ true _ rfl rfl rfl | exact Rel.gyes _ false _ rfl rfl rfl)); (focus (intro a W hb hd hbase; obtain ⟨hc, hf⟩ := bcell hb; clear hb hf; simp [Rel.deps, Rel.dep1, Rel.ons, Region.binds, Act.eval] at hd; simp only [Act.eval, List.mem_cons, List.not_mem_nil, not_or, and_imp, or_false, Array.getD_eq_getD_getElem?] at hbase; go_simp; (try go_bits); (try rfl); done)); (try simp only [List.nil_append, List.cons_append]))
  refine Rel.callR3 (RdS n zs) (RdS.stable n zs) (Rel.gno rfl) ?_ ?_
  · intro a W hb hd hbase
    simp [Rel.deps, Rel.dep1, Rel.ons, Region.binds, Act.eval] at hd
    obtain ⟨h0, ho⟩ := hd
    refine ⟨66, #[.slice A2 n c], ?_, (HRd.out W A2 c (HzC.out.below hb)).mono (fun e W' ⟨B, e1, h1, h3, h4⟩ => ⟨_, h1, ⟨B, e1, rfl, h3⟩, h4⟩)⟩
    go_simp
    (first | done | rfl | (refine ⟨?_, ?_⟩ <;> rfl))
  (try simp only [List.nil_append, List.cons_append])
  refine Rel.done3 ?_
  intro xx w1 h1 hx
  simp only [Rel.facts, Nat.zero_add, Nat.reduceAdd] at hx
  obtain ⟨_, e1, o2, e3, e4, ⟨B5, e5, E5, HRz5⟩, _⟩ := hx
  simp only [Rel.fill, Nat.zero_add, Nat.reduceAdd, e1, e3, e4, E5]
  simp only [Act.put, List.setIfInBounds_toArray, List.set_cons_zero, List.set_cons_succ]
  clear e1 e3 e4 E5
  have O2 := Lib.hid o2; clear o2
  have h1' := h1
  have HSC_1 := Lib.hid (HSC.out.below h1)
  clear HSC
  have HzC_1 := Lib.hid (HzC.out.below h1)
  clear HzC
  have hB1 := hB0.trans (h1.mono hB0.size)
  have KC_1 := Lib.hid (KC0.out.below h1)
  have KX_1 := Lib.hid (KX0.out.below h1)
  clear h1 hB0 KC0 KX0 fX_0 fX_1 fX_2 fX_3 fX_4 fX_l fX_f fX_l0_1 fX_l0_2
  go_wp2_with (at_builtin; refine wpList_append_onto rfl _ _ 110 rfl w.heap.size 126 i0 _ 3 24 Tryd.underlying110 hi iz0 iz1 iz2 rfl (by decide) _ m (flat3 S) rfl O2.out _ n _ (flat3 zs) rfl (by rw [flat3_len, ← HzL.out]) (reads_at HRz5 n HzL.out) (flat3_one _) (by unfold maxLen; omega) (by omega) hB1.size ?_; intro v2 w2 ho hg; refine Hid.out ?_)
  unfold Hid
  have h2 : Below w.heap.size w1 w2 := (Below.refl _ _).grown hg hB1.size (fun k hk => (O2.out.lt k hk).1)
  have hB2 : Below w.heap.size w w2 := hB1.trans h2
  have ho' : w2.ownsRow w.heap.size 126 3 v2 N (flat3 Z) := by rw [HZ.out, flat3_append, ← HNm.out]; exact ho
  have HZL := Lib.hid (show N = Z.length by rw [HZ.out, List.length_append, ← HSL.out, ← HzL.out, HNm.out])
  obtain ⟨RB, re', rfl, _, rz⟩ := own_reads ho' HZL.out
  have RZ := Lib.hid rz
  clear ho ho' hg rz O2 HRz5 HZ
  have KC_2 := Lib.hid (KCw.out.below hB2)
  clear KC_1
  clear KX_1
  clear HSC_1
  clear HzC_1
  clear h2 hB1
  obtain ⟨fC_0, fC_1, fC_2, fC_3, fC_4, fC_5, fC_6, fC_7, fC_8, fC_l, fC_f⟩ := KC_2.out.o9
  have fC_l0_1 : g3 < w2.heap.size + 1 := by omega
  have fC_l0_2 : g3 < w2.heap.size + 1 + 1 := by omega
  go_wp2_with (go_at_call 64; refine (class_any _ _ _ _ _ _ _ _ _ _).mono ?_; rintro r w3 ⟨rfl, h3⟩; dsimp only; refine Hid.out ?_)
  unfold Hid
  have RZ_3 := Lib.hid (RZ.out.below (h3))
  clear RZ
  have hB3 := hB2.trans (h3.mono hB2.size)
  have KC_3 := Lib.hid (KC_2.out.below h3)
  clear h3 hB2 KC_2 fC_0 fC_1 fC_2 fC_3 fC_4 fC_5 fC_6 fC_7 fC_8 fC_l fC_f fC_l0_1 fC_l0_2
  go_wp2_with (at_builtin; refine wpList_append_onto rfl _ _ 110 rfl w3.heap.size 126 i0 _ 3 24 Tryd.underlying110 hi iz0 iz1 iz2 rfl (by decide) _ 0 [] rfl (own_empty rfl) _ N _ (flat3 Z) rfl (by rw [flat3_len, ← HZL.out]) (reads_at (RZ_3.out.below ((Below.refl _ _).alloc (Nat.le_refl _) _)) N HZL.out) (flat3_one _) (by unfold maxLen; omega) (by omega) (by simp) ?_; intro v4 w4 ho hg; refine Hid.out ?_)
  unfold Hid
  have h4 : Below w3.heap.size w3 w4 := ((Below.refl _ _).alloc (Nat.le_refl _) _).grown hg (by simp) (fun k hk => by cases hk; exact Nat.le_refl _)
  rw [Nat.zero_add, List.nil_append] at ho
  obtain ⟨RB4, re4, rfl, _, rr⟩ := own_reads ho HZL.out
  have RZ0 := Lib.hid rr
  clear ho hg rr
  have RZ_4 := Lib.hid (RZ_3.out.below h4)
  clear RZ_3
  have hB4 := hB3.trans (h4.mono hB3.size)
  have KC_4 := Lib.hid (KC_3.out.below h4)
  clear h4 hB3 KC_3
  go_wp2_with (go_at_call 67; refine (HCf.out _ _ _ (hL.below hB4) RZ0.out).mono ?_; rintro r w5 ⟨IB, ie, rfl, IC, h5⟩; dsimp only; refine Hid.out ?_)
  unfold Hid
  have RZ_5 := Lib.hid (RZ_4.out.below (h5))
  clear RZ_4
  have RZ0_5 := Lib.hid (RZ0.out.below (h5))
  clear RZ0
  have HIC := Lib.hid IC; clear IC
  have hB5 := hB4.trans (h5.mono hB4.size)
  have KC_5 := Lib.hid (KC_4.out.below h5)
  clear h5 hB4 KC_4
  clear RZ0_5
  obtain ⟨fC_0, fC_1, fC_2, fC_3, fC_4, fC_5, fC_6, fC_7, fC_8, fC_l, fC_f⟩ := KC_5.out.o9
  have fC_l0_1 : g3 < w5.heap.size + 1 := by omega
  have fC_l0_2 : g3 < w5.heap.size + 1 + 1 := by omega
  go_wp2_with (go_at_call 64; refine (class_any _ _ _ _ _ _ _ _ _ _).mono ?_; rintro r w6 ⟨rfl, h6⟩; dsimp only; refine Hid.out ?_)
  unfold Hid
  have RZ_6 := Lib.hid (RZ_5.out.below (h6))
  clear RZ_5
  have HIC_6 := Lib.hid (HIC.out.below (h6))
  clear HIC
  have hB6 := hB5.trans (h6.mono hB5.size)
  have KC_6 := Lib.hid (KC_5.out.below h6)
  clear h6 hB5 KC_5 fC_0 fC_1 fC_2 fC_3 fC_4 fC_5 fC_6 fC_7 fC_8 fC_l fC_f fC_l0_1 fC_l0_2
  go_wp2_with (at_builtin; refine wpList_append_onto rfl _ _ 110 rfl w6.heap.size 126 i0 _ 3 24 Tryd.underlying110 hi iz0 iz1 iz2 rfl (by decide) _ 0 [] rfl (own_empty rfl) _ N _ (flat3 Z) rfl (by rw [flat3_len, ← HZL.out]) (reads_at (RZ_6.out.below ((Below.refl _ _).alloc (Nat.le_refl _) _)) N HZL.out) (flat3_one _) (by unfold maxLen; omega) (by omega) (by simp) ?_; intro v7 w7 ho hg; refine Hid.out ?_)
  unfold Hid
  have h7 : Below w6.heap.size w6 w7 := ((Below.refl _ _).alloc (Nat.le_refl _) _).grown hg (by simp) (fun k hk => by cases hk; exact Nat.le_refl _)
  rw [Nat.zero_add, List.nil_append] at ho
  obtain ⟨RB7, re7, rfl, _, rr⟩ := own_reads ho HZL.out
  have RZ0 := Lib.hid rr
  clear ho hg rr
  have RZ_7 := Lib.hid (RZ_6.out.below h7)
  clear RZ_6
  have HIC_7 := Lib.hid (HIC_6.out.below h7)
  clear HIC_6
  have hB7 := hB6.trans (h7.mono hB6.size)
  have KC_7 := Lib.hid (KC_6.out.below h7)
  clear h7 hB6 KC_6
  go_wp2_with (go_at_call 63; refine (HRz.out _ _ _ (hL.below hB7) RZ0.out).mono ?_; rintro r w8 ⟨DB, de, rfl, DC, h8⟩; dsimp only; refine Hid.out ?_)
  unfold Hid
  have RZ_8 := Lib.hid (RZ_7.out.below (h8))
  clear RZ_7
  have HIC_8 := Lib.hid (HIC_7.out.below (h8))
  clear HIC_7
  have RZ0_8 := Lib.hid (RZ0.out.below (h8))
  clear RZ0
  have HDC := Lib.hid DC; clear DC
  have hB8 := hB7.trans (h8.mono hB7.size)
  have KC_8 := Lib.hid (KC_7.out.below h8)
  clear h8 hB7 KC_7
  clear RZ0_8
  rcases HCASE.out with ⟨hq0, rfl⟩ | ⟨rfl, rfl, hl0, hlN, HLI, HINC, HREG⟩
  · have hq1 : (0 : Int) < (q : Int) := by omega
    go_wp2
    apply HQ.out
    exact hB8
  · have hl1 : ((li : Int) == 0) = false := by simp; omega
    have hl2 : ¬ (N : Int) < (li : Int) := by omega
    have hl3 : ¬ N < li := by omega
    go_wp2
    refine holds_d l N li _ _ _ _ _ _ _ _ _ _ _ _ _ _ _ _ _ _ _ _ _ _ _ _ _ _ _ _ _ _ _ _ _ _ _ _ _ _ _ _ _ _ _ _ _ _ _ _ _ _ _ _ _ _ _ _ _ _ _ _ _ _ _ _ _ _ _ _ _ _ _ _ _ _ _ _ _ _ _ _ _ _ _ _ _ _ _ _ _ _ _ _ _ _ _ _ _ _ _ _ _ _ _ _ _ _ _ _ _ _ _ _ _ _ _ _ _ _ _ _ _ _ _ _ _ _ _ _ _ _ _ _ _ _ _ _ _ _ _ _ _ _ _ _ _ _ _ _ _ _ _ _ _ _ _ _ _ _ _ _ _ _ _ _ _ _ _ _ _ _ _ _ _ _ _ _ _ _ _ _ _ _ _ _ _ _ _ _ _ _ _ _ _ _ _ _ _ _ _ _ _ _ _ _ _ _ _ _ _ _ _ _ _ _ _ _ _ _ _ _ _ _ _ _ _ _ _ _ _ _ _ _ _ _ _ _ _ _ _ _ _ _ _ _ _ _ _ _ _ _ _ _ _ _ _ _ _ _ _ _ _ _ _ _ _ _ _ _ _ _ _ _ _ _ _ _ _ _ _ _ _ _ _ _ _ _ _ _ _ _ _ _ _ _ _ _ _ _ _ _ _ _ _ _ _ _ _ _ _ _ _ _ _ _ _ _ _ _ _ _ _ _ _ _ _ _ _ _ _ _ _ _ _ _ _ _ _ _ _ _ _ _ _ _ _ _ _ _ _ _ _ _ _ _ _ _ _ _ _ _ _ _ _ _ _ _ _ _ _ _ _ _ HIC_8 HLI HINC hN (by omega) _ _ (Lib.hid ?_)
    intros
    go_wp2
    refine holds_e re le bl ma st lo mm kk rr l Z N li _ _ _ _ _ _ _ _ _ _ _ _ _ _ _ _ _ _ _ _ _ _ _ _ _ _ _ _ _ _ _ _ _ _ _ _ _ _ _ _ _ _ _ _ _ _ _ _ _ _ _ _ _ _ _ _ _ _ _ _ _ _ _ _ _ _ _ _ _ _ _ _ _ _ _ _ _ _ _ _ _ _ _ _ _ _ _ _ _ _ _ _ _ _ _ _ _ _ _ _ _ _ _ _ _ _ _ _ _ _ _ _ _ _ _ _ _ _ _ _ _ _ _ _ _ _ _ _ _ _ _ _ _ _ _ _ _ _ _ _ _ _ _ _ _ _ _ _ _ _ _ _ _ _ _ _ _ _ _ _ _ _ _ _ _ _ _ _ _ _ _ _ _ _ _ _ _ _ _ _ _ _ _ _ _ _ _ _ _ _ _ _ _ _ _ _ _ _ _ _ _ _ _ _ _ _ _ _ _ _ _ _ _ _ _ _ _ _ _ _ _ _ _ _ _ _ _ _ _ _ _ _ _ _ _ _ _ _ _ _ _ _ _ _ _ _ _ _ _ _ _ _ _ _ _ _ _ _ _ _ _ _ _ _ _ _ _ _ _ _ _ _ _ _ _ _ _ _ _ _ _ _ _ _ _ _ _ _ _ _ _ _ _ _ _ _ _ _ _ _ _ _ _ _ _ _ _ _ _ _ _ _ _ _ _ _ _ _ _ _ _ _ _ _ _ _ _ _ _ _ _ _ _ _ _ _ _ _ _ _ _ _ _ _ _ _ _ _ _ _ _ _ _ _ _ _ _ _ _ _ _ _ _ _ _ _ _ _ _ _ _ _ _ _ (hL.below hB8) KC_8 RZ_8 HZL HIC_8 HLI HINC hN (by omega) HREG _ _ (Lib.hid ?_)
    intro W
    intros
    rename_i hbl
    go_wp2
    apply HQ.out
    exact hB8.trans (hbl.mono hB8.size)
end Go.Proofs.YtpkldjlljoledaaDoor
