/- Part 19 of the texts of the claim: HoB, HoD. -/
import Derived.Test.YtpkldjlljoledaaDoorMh18

/- DriverHolds: its first loop. -/
namespace Go.Proofs.YtpkldjlljoledaaDoor
open Go.RowKit
open Calm (bcell Blk)
set_option maxRecDepth 100000 in
set_option maxHeartbeats 16000000 in
theorem holds_b (re le bl x0 x1 x2 : Int) (S As Bs : List (Int × Int × Int)) (m na nb Ae Be eS g7 : Nat) (AB BB BS : Option Addr) (u0 u1 u2 u3 u4 u5 u6 u8 u10 u11 u12 u14 u16 u19 u20 u21 u22 u23 u24 u25 u26 u27 u28 u29 u30 u31 u32 u33 u34 u35 u36 u37 u38 u39 u40 u41 u42 u43 u44 u45 u46 u47 u48 u49 u50 u51 u52 u53 u54 u55 u56 u57 u58 u59 u60 u61 u62 u63 u64 u65 u66 u67 u68 u69 u70 u71 u72 u73 u74 u75 u76 u77 u78 u79 u80 u81 u82 u83 u84 u85 u86 u87 u88 u89 u90 u91 u92 u93 u94 u95 u96 u97 u98 u99 u100 u101 u102 u103 u104 u105 u106 u107 u108 u109 u110 u111 u112 u113 u114 u115 u116 u117 u118 u119 u120 u121 u122 u123 u124 u125 u126 u127 u128 u129 u130 u131 u132 u133 u134 u135 u136 u137 u138 u139 u140 u141 u142 u143 u144 u145 u146 u147 u148 u149 u150 u151 u152 u153 u154 u155 u156 u157 u158 u159 u160 u161 u162 u163 u164 u165 u166 u167 u168 u169 u170 u171 u172 u173 u174 u175 u176 u177 u178 u179 u180 u181 u182 u183 u184 u185 u186 u187 u188 u189 u190 u191 u192 u193 u194 u195 u196 u197 u198 u199 u200 u201 u202 u203 u204 u205 u206 u207 u208 u212 u213 u214 u215 u216 u217 u218 u219 u220 u221 u222 u223 u224 u225 u226 u227 u228 u229 u230 u231 u232 u233 u234 u235 u236 u237 u238 u239 u240 u241 u242 u243 u244 u245 u246 u247 u248 u249 u250 u251 u252 u253 u254 u255 u256 u257 u258 u259 u260 u261 u262 u263 u264 u265 u266 u267 u268 u269 u270 u271 u272 u273 u274 u275 u276 u277 u278 u279 u280 u281 u282 u283 u284 u285 u286 u287 u288 u289 u290 u291 u292 u293 u294 u295 u296 u297 u298 u299 u300 u301 u302 u303 u304 u305 u306 u307 u308 u309 u310 u311 u312 u313 u314 u315 u316 u317 u318 u319 u320 u321 u322 u323 u324 u325 u326 u327 u328 u329 u330 u331 u332 u333 u334 u335 u336 u337 u338 u339 u340 u341 u342 u343 u344 u345 u346 u347 u348 u349 u350 u351 u352 u353 u354 u355 u356 u357 u358 u359 u360 u361 u362 u363 u364 u365 u366 u367 u368 u369 u370 u371 : Value) (w : World) (hL : Lim w)
    (HA : Hid (DCells w AB re le bl As)) (HB : Hid (DCells w BB re le bl Bs)) (HS : Hid (RCells w BS S)) (HAL : Hid (na = As.length)) (HBL : Hid (nb = Bs.length)) (HSL : Hid (m = S.length)) (hna : na ≤ 60) (hnb : nb ≤ 60) (hm : m ≤ 3)
    (HD : Hid (Blk w g7 #[(.int .i64 (re)), (.int .i64 (le)), (.int .i64 (bl)), (.int .i64 (x0)), (.int .i64 (x1)), (.int .i64 (x2))])) (HSUB : Hid (As.Sublist Bs)) (HIN : Hid ((x0, x1, x2) ∈ As))
    (HEX : Hid (∀ (W : World) (B : Option Addr) (e : Nat) (y : Int × Int × Int), y ∈ As → Lim W → RCells W B S → Calls Tryd.prog 65 #[.agg #[(.int .i64 (re)), (.int .i64 (le)), (.int .i64 (bl)), (.int .i64 (y.1)), (.int .i64 (y.2.1)), (.int .i64 (y.2.2))], .slice B m e] W fun r w' => r = .returned (.tuple #[.bool true, (.int .i64 (0))]) ∧ Below W.heap.size W w'))
    (K : Act → World → Prop) (Q : Exit → Act → World → Prop)
    (HK : Hid (∀ (W : World) (c18 c211 c6 c20 c21 c22 c212 c213 c214 c215 c216 c217 c218 c219 c220 c221 c222 c223 c224 c225 c226 c227 c228 c229 c230 c231 c232 c233 c234 c235 c236 c237 c238 c239 c240 c241 c242 c243 c244 c245 c246 c247 c248 c249 c250 c251 c252 c253 : Value), Below w.heap.size w W → K { tmps := #[u0, u1, u2, u3, u4, u5, c6, .pointer (some ⟨g7, 0, none⟩), u8, .slice BS m eS, u10, u11, u12, .slice AB na Ae, u14, .slice BB nb Be, u16, .bool true, c18, u19, c20, c21, c22, u23, u24, u25, u26, u27, u28, u29, u30, u31, u32, u33, u34, u35, u36, u37, u38, u39, u40, u41, u42, u43, u44, u45, u46, u47, u48, u49, u50, u51, u52, u53, u54, u55, u56, u57, u58, u59, u60, u61, u62, u63, u64, u65, u66, u67, u68, u69, u70, u71, u72, u73, u74, u75, u76, u77, u78, u79, u80, u81, u82, u83, u84, u85, u86, u87, u88, u89, u90, u91, u92, u93, u94, u95, u96, u97, u98, u99, u100, u101, u102, u103, u104, u105, u106, u107, u108, u109, u110, u111, u112, u113, u114, u115, u116, u117, u118, u119, u120, u121, u122, u123, u124, u125, u126, u127, u128, u129, u130, u131, u132, u133, u134, u135, u136, u137, u138, u139, u140, u141, u142, u143, u144, u145, u146, u147, u148, u149, u150, u151, u152, u153, u154, u155, u156, u157, u158, u159, u160, u161, u162, u163, u164, u165, u166, u167, u168, u169, u170, u171, u172, u173, u174, u175, u176, u177, u178, u179, u180, u181, u182, u183, u184, u185, u186, u187, u188, u189, u190, u191, u192, u193, u194, u195, u196, u197, u198, u199, u200, u201, u202, u203, u204, u205, u206, u207, u208, .slice AB na Ae, (.int .i64 (na)), c211, c212, c213, c214, c215, c216, c217, c218, c219, c220, c221, c222, c223, c224, c225, c226, c227, c228, c229, c230, c231, c232, c233, c234, c235, c236, c237, c238, c239, c240, c241, c242, c243, c244, c245, c246, c247, c248, c249, c250, c251, c252, c253, u254, u255, u256, u257, u258, u259, u260, u261, u262, u263, u264, u265, u266, u267, u268, u269, u270, u271, u272, u273, u274, u275, u276, u277, u278, u279, u280, u281, u282, u283, u284, u285, u286, u287, u288, u289, u290, u291, u292, u293, u294, u295, u296, u297, u298, u299, u300, u301, u302, u303, u304, u305, u306, u307, u308, u309, u310, u311, u312, u313, u314, u315, u316, u317, u318, u319, u320, u321, u322, u323, u324, u325, u326, u327, u328, u329, u330, u331, u332, u333, u334, u335, u336, u337, u338, u339, u340, u341, u342, u343, u344, u345, u346, u347, u348, u349, u350, u351, u352, u353, u354, u355, u356, u357, u358, u359, u360, u361, u362, u363, u364, u365, u366, u367, u368, u369, u370, u371], defers := [] } W)) :
    (Code.loop (holdsLoop 0)).wp Tryd.prog (Exit.inBlock 0 (Exit.then K Q)) { tmps := #[u0, u1, u2, u3, u4, u5, u6, .pointer (some ⟨g7, 0, none⟩), u8, .slice BS m eS, u10, u11, u12, .slice AB na Ae, u14, .slice BB nb Be, u16, .bool false, (.int .i64 (0)), u19, u20, u21, u22, u23, u24, u25, u26, u27, u28, u29, u30, u31, u32, u33, u34, u35, u36, u37, u38, u39, u40, u41, u42, u43, u44, u45, u46, u47, u48, u49, u50, u51, u52, u53, u54, u55, u56, u57, u58, u59, u60, u61, u62, u63, u64, u65, u66, u67, u68, u69, u70, u71, u72, u73, u74, u75, u76, u77, u78, u79, u80, u81, u82, u83, u84, u85, u86, u87, u88, u89, u90, u91, u92, u93, u94, u95, u96, u97, u98, u99, u100, u101, u102, u103, u104, u105, u106, u107, u108, u109, u110, u111, u112, u113, u114, u115, u116, u117, u118, u119, u120, u121, u122, u123, u124, u125, u126, u127, u128, u129, u130, u131, u132, u133, u134, u135, u136, u137, u138, u139, u140, u141, u142, u143, u144, u145, u146, u147, u148, u149, u150, u151, u152, u153, u154, u155, u156, u157, u158, u159, u160, u161, u162, u163, u164, u165, u166, u167, u168, u169, u170, u171, u172, u173, u174, u175, u176, u177, u178, u179, u180, u181, u182, u183, u184, u185, u186, u187, u188, u189, u190, u191, u192, u193, u194, u195, u196, u197, u198, u199, u200, u201, u202, u203, u204, u205, u206, u207, u208, .slice AB na Ae, (.int .i64 (na)), (.int .i64 (0)), u212, u213, u214, u215, u216, u217, u218, u219, u220, u221, u222, u223, u224, u225, u226, u227, u228, u229, u230, u231, u232, u233, u234, u235, u236, u237, u238, u239, u240, u241, u242, u243, u244, u245, u246, u247, u248, u249, u250, u251, u252, u253, u254, u255, u256, u257, u258, u259, u260, u261, u262, u263, u264, u265, u266, u267, u268, u269, u270, u271, u272, u273, u274, u275, u276, u277, u278, u279, u280, u281, u282, u283, u284, u285, u286, u287, u288, u289, u290, u291, u292, u293, u294, u295, u296, u297, u298, u299, u300, u301, u302, u303, u304, u305, u306, u307, u308, u309, u310, u311, u312, u313, u314, u315, u316, u317, u318, u319, u320, u321, u322, u323, u324, u325, u326, u327, u328, u329, u330, u331, u332, u333, u334, u335, u336, u337, u338, u339, u340, u341, u342, u343, u344, u345, u346, u347, u348, u349, u350, u351, u352, u353, u354, u355, u356, u357, u358, u359, u360, u361, u362, u363, u364, u365, u366, u367, u368, u369, u370, u371], defers := [] } w := by
  obtain ⟨i0, hi, iz0, iz1, iz2⟩ := info_parts Tryd.infoR
  have hg7 := HD.out.lt
  conv => arg 2; arg 1; whnf
  conv => arg 4; dsimp only
  go_loopw [17, 18, 211] (fun f v i wr => ∃ (k j : Nat) (t : Bool), k ≤ na ∧ j ≤ nb ∧ f = .bool t ∧ v = (.int .i64 (j)) ∧ i = (.int .i64 (k)) ∧ (t = true ∨ (x0, x1, x2) ∈ As.drop k) ∧ (As.drop k).Sublist (Bs.drop j) ∧ Below w.heap.size w wr) (fun _ _ i _ => na - (intOf i).toNat)
  case atStart => exact ⟨0, 0, false, Nat.zero_le _, Nat.zero_le _, rfl, rfl, rfl, .inr HIN.out, HSUB.out, Below.refl _ _⟩
  case round =>
    obtain ⟨k, j, t, hk, hj, rfl, rfl, rfl, hf, hsub, hBr⟩ := hrel
    have HF := Lib.hid hf; have HSB := Lib.hid hsub; clear hf hsub
    have hsz := hBr.size
    by_cases hlt : k < na
    · have hlt2 : k < As.length := by rw [← HAL.out]; exact hlt
      obtain ⟨ba, oa, eAB, la, ca⟩ := (HA.out.below hBr) (by omega)
      obtain ⟨a1, a2, a3, a4, a5, a6⟩ := ca k hlt2
      obtain ⟨⟨y0, y1, y2⟩, hy⟩ : ∃ y, y = As.getD k (0, 0, 0) := ⟨_, rfl⟩
      rw [← hy] at a4 a5 a6
      simp only [] at a4 a5 a6
      have HY := Lib.hid (show (y0, y1, y2) ∈ As by rw [hy, List.getD_eq_getElem?_getD, List.getElem?_eq_getElem hlt2]; exact List.getElem_mem hlt2)
      have HDR := Lib.hid (show As.drop k = (y0, y1, y2) :: As.drop (k + 1) by rw [List.drop_eq_getElem_cons hlt2, hy, List.getD_eq_getElem?_getD, List.getElem?_eq_getElem hlt2]; rfl)
      clear hy ca hlt2
      have hsb := HSB.out; rw [HDR.out] at hsb; have HSB2 := Lib.hid hsb; clear hsb HSB
      have hf2 := HF.out; rw [HDR.out, List.mem_cons] at hf2; have HF2 := Lib.hid hf2; clear hf2 HF
      have KD := HD.out.below hBr
      obtain ⟨d0, d1, d2, d3, d4, d5, dl, df⟩ := KD.o6
      have dl1 : g7 < wr.heap.size + 1 := by omega
      have dn : ¬ g7 = wr.heap.size := by omega
      have dn2 : ¬ wr.heap.size = g7 := by omega
      have hEQ := run_eq_ref re le bl y0 y1 y2 x0 x1 x2
      obtain ⟨q, hq⟩ : ∃ q, q = decide ((y0, y1, y2) = (x0, x1, x2)) := ⟨_, rfl⟩
      rw [← hq] at hEQ
      have HQ := Lib.hid hq; clear hq KD
      subst eAB
      have hres : Hid (∃ t' : Bool, (t || q) = t' ∧ (t' = true ∨ (x0, x1, x2) ∈ As.drop (k + 1))) := Lib.hid ⟨_, rfl, HF2.out.elim (fun h => .inl (by rw [h]; rfl)) (fun h => h.elim (fun h => .inl (by rw [HQ.out, ← h]; simp)) .inr)⟩
      clear HF2 HQ
      obtain ⟨t', ht', hf'⟩ := hres.out
      have HF := Lib.hid hf'; have HT := Lib.hid ht'; clear hf' ht' hres
      cases t
      · have hb1 : Hid (q = t') := Lib.hid (by have := HT.out; simpa using this)
        clear HT
        obtain rfl := hb1.out
        clear hb1
        go_wp2
        refine name_world ?_
        intro w2 e2
        have hB2 : Below w.heap.size w w2 := e2.symm ▸ hBr.alloc hsz _
        have hBq : Below wr.heap.size wr w2 := e2.symm ▸ (Below.refl _ _).alloc (Nat.le_refl _) _
        have KY := Lib.hid (show Blk w2 wr.heap.size #[(.int .i64 (re)), (.int .i64 (le)), (.int .i64 (bl)), (.int .i64 (y0)), (.int .i64 (y1)), (.int .i64 (y2))] from e2.symm ▸ Calm.Blk.new _ _ _)
        clear e2 a1 a2 a3 a4 a5 a6 d0 d1 d2 d3 d4 d5 df hEQ
        go_loopw [18] (fun v wi => ∃ j : Nat, j ≤ nb ∧ v = (.int .i64 (j)) ∧ ((y0, y1, y2) :: As.drop (k + 1)).Sublist (Bs.drop j) ∧ Below w2.heap.size w2 wi) (fun v _ => nb - (intOf v).toNat)
        case atStart => exact ⟨j, hj, rfl, HSB2.out, Below.refl _ _⟩
        case round =>
          clear hj HSB2
          obtain ⟨j, hj, rfl, hsb, hBi⟩ := hrel
          obtain ⟨hjl, hnx⟩ := seek_next hsb
          clear hsb
          have hjn : j < nb := by rw [HBL.out]; exact hjl
          obtain ⟨bb, ob, eBB, lb, cb⟩ := (HB.out.below (hB2.trans (hBi.mono hB2.size))) (by omega)
          obtain ⟨b1, b2, b3, b4, b5, b6⟩ := cb j hjl
          obtain ⟨⟨z0, z1, z2⟩, hz⟩ : ∃ z, z = Bs.getD j (0, 0, 0) := ⟨_, rfl⟩
          rw [← hz] at b4 b5 b6
          simp only [] at b4 b5 b6
          have hzz : Bs[j]? = some (z0, z1, z2) := by rw [hz, List.getD_eq_getElem?_getD, List.getElem?_eq_getElem hjl]; rfl
          rw [hzz] at hnx
          have HNX := Lib.hid (show ((z0, z1, z2) ≠ (y0, y1, y2) ∧ ((y0, y1, y2) :: As.drop (k + 1)).Sublist (Bs.drop (j + 1))) ∨ (z0, z1, z2) = (y0, y1, y2) ∧ (As.drop (k + 1)).Sublist (Bs.drop j) from hnx.imp (fun ⟨x, h1, h2, h3⟩ => ⟨by rw [Option.some.inj h1]; exact h2, h3⟩) (fun ⟨h1, h2⟩ => ⟨Option.some.inj h1, h2⟩))
          clear hz hzz hnx cb hjl
          have KYi := KY.out.below hBi
          obtain ⟨yc0, yc1, yc2, yc3, yc4, yc5, yl, yf⟩ := KYi.o6
          clear KYi yf
          have hNE := run_neq_drv re le bl z0 z1 z2 y0 y1 y2
          subst eBB
          have hsi := hBi.size
          rcases HNX.out with ⟨hne, hs2⟩ | ⟨heq, hs2⟩
          · have HS2 := Lib.hid hs2
            rw [decide_eq_false hne, Bool.not_false] at hNE
            clear hne hs2 HNX
            go_wp2
            refine Rel.region3 11 (by kernel_rfl) (by kernel_rfl) (by kernel_rfl) ?_
            simp only [List.take_succ_cons, List.take_zero, List.drop_succ_cons, List.drop_zero, List.filterMap_cons, List.filterMap_nil]
            iterate 3 (apply Rel.op3; (focus (first | exact Rel.gno rfl | exact Rel.gyes _ true _ rfl rfl rfl | exact Rel.gyes _ false _ rfl rfl rfl)); (focus (intro a W hb hd hbase; obtain ⟨hc, hf⟩ := bcell hb; clear hb hf; simp [Rel.deps, Rel.dep1, Rel.ons, Region.binds, Act.eval] at hd; simp only [Act.eval, List.mem_cons, List.not_mem_nil, not_or, and_imp, or_false, Array.getD_eq_getD_getElem?] at hbase; go_simp; (try go_bits); (try rfl); done)); (try simp only [List.nil_append, List.cons_append]))
            (apply Rel.op3 (.bool true); (focus (first | exact Rel.gno rfl | exact Rel.gyes _ true _ rfl rfl rfl | exact Rel.gyes _ false _ rfl rfl rfl)); (focus (intro a W hb hd hbase; obtain ⟨hc, hf⟩ := bcell hb; clear hb hf; simp [Rel.deps, Rel.dep1, Rel.ons, Region.binds, Act.eval] at hd; simp only [Act.eval, List.mem_cons, List.not_mem_nil, not_or, and_imp, or_false, Array.getD_eq_getD_getElem?] at hbase; go_simp; (try go_bits); (try rfl); done)); (try simp only [List.nil_append, List.cons_append]))
            iterate 6 (apply Rel.op3; (focus (first | exact Rel.gno rfl | exact Rel.gyes _ true _ rfl rfl rfl | exact Rel.gyes _ false _ rfl rfl rfl)); (focus (intro a W hb hd hbase; obtain ⟨hc, hf⟩ := bcell hb; clear hb hf; simp [Rel.deps, Rel.dep1, Rel.ons, Region.binds, Act.eval] at hd; simp only [Act.eval, List.mem_cons, List.not_mem_nil, not_or, and_imp, or_false, Array.getD_eq_getD_getElem?] at hbase; go_simp; (try go_bits); (try rfl); done)); (try simp only [List.nil_append, List.cons_append]))
            (apply Rel.op3 (.bool true); (focus (first | exact Rel.gno rfl | exact Rel.gyes _ true _ rfl rfl rfl | exact Rel.gyes _ false _ rfl rfl rfl)); (focus (intro a W hb hd hbase; obtain ⟨hc, hf⟩ := bcell hb; clear hb hf; simp [Rel.deps, Rel.dep1, Rel.ons, Region.binds, Act.eval] at hd; simp only [Act.eval, List.mem_cons, List.not_mem_nil, not_or, and_imp, or_false, Array.getD_eq_getD_getElem?] at hbase; go_simp; (try go_bits); (try rfl); done)); (try simp only [List.nil_append, List.cons_append]))
            refine Rel.done3 ?_
            intro x w3 h3 hx
            simp only [Rel.facts, Nat.zero_add, Nat.reduceAdd] at hx
            obtain ⟨e0, e1, e2, e3, e4, e5, e6, e7, e8, e9, e10, _⟩ := hx
            simp only [Rel.fill, Nat.zero_add, Nat.reduceAdd, e0, e1, e2, e3, e4, e5, e6, e7, e8, e9, e10]
            simp only [Act.put, List.setIfInBounds_toArray, List.set_cons_zero, List.set_cons_succ]
            clear e0 e1 e2 e3 e4 e5 e6 e7 e8 e9 e10
            have hB3 : Below w2.heap.size w2 w3 := hBi.trans (h3.mono hBi.size)
            clear b1 b2 b3 b4 b5 b6 hNE yc0 yc1 yc2 yc3 yc4 yc5 x
            go_wp2
            go_roundw
            case rel => exact ⟨j + 1, by omega, by go_num, HS2.out, hB3⟩
            case measure => simp [intOf]; omega
          · have HS2 := Lib.hid hs2
            rw [decide_eq_true heq, Bool.not_true] at hNE
            clear heq hs2 HNX
            go_wp2
            refine Rel.region3 11 (by kernel_rfl) (by kernel_rfl) (by kernel_rfl) ?_
            simp only [List.take_succ_cons, List.take_zero, List.drop_succ_cons, List.drop_zero, List.filterMap_cons, List.filterMap_nil]
            iterate 3 (apply Rel.op3; (focus (first | exact Rel.gno rfl | exact Rel.gyes _ true _ rfl rfl rfl | exact Rel.gyes _ false _ rfl rfl rfl)); (focus (intro a W hb hd hbase; obtain ⟨hc, hf⟩ := bcell hb; clear hb hf; simp [Rel.deps, Rel.dep1, Rel.ons, Region.binds, Act.eval] at hd; simp only [Act.eval, List.mem_cons, List.not_mem_nil, not_or, and_imp, or_false, Array.getD_eq_getD_getElem?] at hbase; go_simp; (try go_bits); (try rfl); done)); (try simp only [List.nil_append, List.cons_append]))
            (apply Rel.op3 (.bool true); (focus (first | exact Rel.gno rfl | exact Rel.gyes _ true _ rfl rfl rfl | exact Rel.gyes _ false _ rfl rfl rfl)); (focus (intro a W hb hd hbase; obtain ⟨hc, hf⟩ := bcell hb; clear hb hf; simp [Rel.deps, Rel.dep1, Rel.ons, Region.binds, Act.eval] at hd; simp only [Act.eval, List.mem_cons, List.not_mem_nil, not_or, and_imp, or_false, Array.getD_eq_getD_getElem?] at hbase; go_simp; (try go_bits); (try rfl); done)); (try simp only [List.nil_append, List.cons_append]))
            iterate 6 (apply Rel.op3; (focus (first | exact Rel.gno rfl | exact Rel.gyes _ true _ rfl rfl rfl | exact Rel.gyes _ false _ rfl rfl rfl)); (focus (intro a W hb hd hbase; obtain ⟨hc, hf⟩ := bcell hb; clear hb hf; simp [Rel.deps, Rel.dep1, Rel.ons, Region.binds, Act.eval] at hd; simp only [Act.eval, List.mem_cons, List.not_mem_nil, not_or, and_imp, or_false, Array.getD_eq_getD_getElem?] at hbase; go_simp; (try go_bits); (try rfl); done)); (try simp only [List.nil_append, List.cons_append]))
            (apply Rel.op3 (.bool false); (focus (first | exact Rel.gno rfl | exact Rel.gyes _ true _ rfl rfl rfl | exact Rel.gyes _ false _ rfl rfl rfl)); (focus (intro a W hb hd hbase; obtain ⟨hc, hf⟩ := bcell hb; clear hb hf; simp [Rel.deps, Rel.dep1, Rel.ons, Region.binds, Act.eval] at hd; simp only [Act.eval, List.mem_cons, List.not_mem_nil, not_or, and_imp, or_false, Array.getD_eq_getD_getElem?] at hbase; go_simp; (try go_bits); (try rfl); done)); (try simp only [List.nil_append, List.cons_append]))
            refine Rel.done3 ?_
            intro x w3 h3 hx
            simp only [Rel.facts, Nat.zero_add, Nat.reduceAdd] at hx
            obtain ⟨e0, e1, e2, e3, e4, e5, e6, e7, e8, e9, e10, _⟩ := hx
            simp only [Rel.fill, Nat.zero_add, Nat.reduceAdd, e0, e1, e2, e3, e4, e5, e6, e7, e8, e9, e10]
            simp only [Act.put, List.setIfInBounds_toArray, List.set_cons_zero, List.set_cons_succ]
            clear e0 e1 e2 e3 e4 e5 e6 e7 e8 e9 e10
            have hB3 : Below w2.heap.size w2 w3 := hBi.trans (h3.mono hBi.size)
            clear b1 b2 b3 b4 b5 b6 hNE yc0 yc1 yc2 yc3 yc4 yc5 x
            have HB3 := hB2.trans (hB3.mono hB2.size)
            have KY3 := Lib.hid (KY.out.below hB3)
            obtain ⟨yc0, yc1, yc2, yc3, yc4, yc5, yl3, yf⟩ := KY3.out.o6
            have hne3 : ¬ j = nb := by omega
            go_wp2
            refine Rel.region3 9 (by kernel_rfl) (by kernel_rfl) (by kernel_rfl) ?_
            simp only [List.take_succ_cons, List.take_zero, List.drop_succ_cons, List.drop_zero, List.filterMap_cons, List.filterMap_nil]
            iterate 1 (apply Rel.op3; (focus (first | exact Rel.gno rfl | exact Rel.gyes _ true _ rfl rfl rfl | exact Rel.gyes _ false _ rfl rfl rfl)); (focus (intro a W hb hd hbase; obtain ⟨hc, hf⟩ := bcell hb; clear hb hf; simp [Rel.deps, Rel.dep1, Rel.ons, Region.binds, Act.eval] at hd; simp only [Act.eval, List.mem_cons, List.not_mem_nil, not_or, and_imp, or_false, Array.getD_eq_getD_getElem?] at hbase; go_simp; (try go_bits); (try rfl); done)); (try simp only [List.nil_append, List.cons_append]))
            (apply Rel.empty3 126 3; (focus (first | exact Rel.gno rfl | exact Rel.gyes _ true _ rfl rfl rfl | exact Rel.gyes _ false _ rfl rfl rfl)); (focus (intro a W; go_simp; (first | done | rfl | (refine ⟨?_, ?_⟩ <;> rfl)))); (try simp only [List.nil_append, List.cons_append]))
            iterate 1 (apply Rel.op3; (focus (first | exact Rel.gno rfl | exact Rel.gyes _ true _ rfl rfl rfl | exact Rel.gyes _ false _ rfl rfl rfl)); (focus (intro a W hb hd hbase; obtain ⟨hc, hf⟩ := bcell hb; clear hb hf; simp [Rel.deps, Rel.dep1, Rel.ons, Region.binds, Act.eval] at hd; simp only [Act.eval, List.mem_cons, List.not_mem_nil, not_or, and_imp, or_false, Array.getD_eq_getD_getElem?] at hbase; go_simp; (try go_bits); (try rfl); done)); (try simp only [List.nil_append, List.cons_append]))
            refine Rel.app3 (.tmp 241) (.tmp 242) 110 rfl 126 i0 _ 3 24 Tryd.underlying110 hi iz0 iz1 iz2 rfl (by decide) m (flat3 S) (by rw [flat3_len, ← HSL.out]) (flat3_one _) (by unfold maxLen; omega) (by omega) (Rel.gno rfl) ?_ ?_
            · intro a W hb hd hbase
              simp [Rel.deps, Rel.dep1, Rel.ons, Region.binds] at hd
              obtain ⟨hs, hx⟩ := hd
              exact ⟨⟨_, rfl, by simpa using hs⟩, _, _, hx, reads_at (HS.out.below (HB3.trans (hb.mono HB3.size))) m HSL.out⟩
            (try simp only [List.nil_append, List.cons_append])
            refine Rel.callR3 (fun u _ => u = .tuple #[.bool true, (.int .i64 (0))]) (Rel.stable_eq _) (Rel.gno rfl) ?_ ?_
            · intro a W hb hd hbase
              simp [Rel.deps, Rel.dep1, Rel.ons, Region.binds, Act.eval] at hd
              obtain ⟨h0, ho⟩ := hd
              obtain ⟨B, e, h1, _, h3'⟩ := own_reads ho HSL.out
              refine ⟨65, #[.agg #[(.int .i64 (re)), (.int .i64 (le)), (.int .i64 (bl)), (.int .i64 (y0)), (.int .i64 (y1)), (.int .i64 (y2))], .slice B m e], ?_, (HEX.out W B e (y0, y1, y2) HY.out (hL.below (HB3.trans (hb.mono HB3.size))) h3').mono (fun e W' ⟨h1, h4⟩ => ⟨_, h1, rfl, h4⟩)⟩
              go_simp
              (first | done | rfl | (refine ⟨?_, ?_⟩ <;> rfl))
            (try simp only [List.nil_append, List.cons_append])
            iterate 4 (apply Rel.op3; (focus (first | exact Rel.gno rfl | exact Rel.gyes _ true _ rfl rfl rfl | exact Rel.gyes _ false _ rfl rfl rfl)); (focus (intro a W hb hd hbase; obtain ⟨hc, hf⟩ := bcell hb; clear hb hf; simp [Rel.deps, Rel.dep1, Rel.ons, Region.binds, Act.eval] at hd; simp only [Act.eval, List.mem_cons, List.not_mem_nil, not_or, and_imp, or_false, Array.getD_eq_getD_getElem?] at hbase; go_simp; (try go_bits); (try rfl); done)); (try simp only [List.nil_append, List.cons_append]))
            refine Rel.done3 ?_
            intro xx w4 h4 hx
            simp only [Rel.facts, Nat.zero_add, Nat.reduceAdd] at hx
            obtain ⟨e0, o1, e2, o3, e4, e5, e6, e7, e8, _⟩ := hx
            simp only [Rel.fill, Nat.zero_add, Nat.reduceAdd, e0, e2, e4, e5, e6, e7, e8]
            simp only [Act.put, List.setIfInBounds_toArray, List.set_cons_zero, List.set_cons_succ]
            clear e0 o1 e2 o3 e4 e5 e6 e7 e8 yc0 yc1 yc2 yc3 yc4 yc5 yf KY3
            go_wp2
            go_roundw
            case rel => exact ⟨k + 1, j, _, by omega, by omega, rfl, rfl, by go_num, HF.out, HS2.out, HB3.trans (h4.mono HB3.size)⟩
            case measure => simp [intOf]; omega
      · have hb1 : Hid (true = t') := Lib.hid (by have := HT.out; simpa using this)
        clear HT
        obtain rfl := hb1.out
        clear hb1
        go_wp2
        refine name_world ?_
        intro w2 e2
        have hB2 : Below w.heap.size w w2 := e2.symm ▸ hBr.alloc hsz _
        have hBq : Below wr.heap.size wr w2 := e2.symm ▸ (Below.refl _ _).alloc (Nat.le_refl _) _
        have KY := Lib.hid (show Blk w2 wr.heap.size #[(.int .i64 (re)), (.int .i64 (le)), (.int .i64 (bl)), (.int .i64 (y0)), (.int .i64 (y1)), (.int .i64 (y2))] from e2.symm ▸ Calm.Blk.new _ _ _)
        clear e2 a1 a2 a3 a4 a5 a6 d0 d1 d2 d3 d4 d5 df hEQ
        go_loopw [18] (fun v wi => ∃ j : Nat, j ≤ nb ∧ v = (.int .i64 (j)) ∧ ((y0, y1, y2) :: As.drop (k + 1)).Sublist (Bs.drop j) ∧ Below w2.heap.size w2 wi) (fun v _ => nb - (intOf v).toNat)
        case atStart => exact ⟨j, hj, rfl, HSB2.out, Below.refl _ _⟩
        case round =>
          clear hj HSB2
          obtain ⟨j, hj, rfl, hsb, hBi⟩ := hrel
          obtain ⟨hjl, hnx⟩ := seek_next hsb
          clear hsb
          have hjn : j < nb := by rw [HBL.out]; exact hjl
          obtain ⟨bb, ob, eBB, lb, cb⟩ := (HB.out.below (hB2.trans (hBi.mono hB2.size))) (by omega)
          obtain ⟨b1, b2, b3, b4, b5, b6⟩ := cb j hjl
          obtain ⟨⟨z0, z1, z2⟩, hz⟩ : ∃ z, z = Bs.getD j (0, 0, 0) := ⟨_, rfl⟩
          rw [← hz] at b4 b5 b6
          simp only [] at b4 b5 b6
          have hzz : Bs[j]? = some (z0, z1, z2) := by rw [hz, List.getD_eq_getElem?_getD, List.getElem?_eq_getElem hjl]; rfl
          rw [hzz] at hnx
          have HNX := Lib.hid (show ((z0, z1, z2) ≠ (y0, y1, y2) ∧ ((y0, y1, y2) :: As.drop (k + 1)).Sublist (Bs.drop (j + 1))) ∨ (z0, z1, z2) = (y0, y1, y2) ∧ (As.drop (k + 1)).Sublist (Bs.drop j) from hnx.imp (fun ⟨x, h1, h2, h3⟩ => ⟨by rw [Option.some.inj h1]; exact h2, h3⟩) (fun ⟨h1, h2⟩ => ⟨Option.some.inj h1, h2⟩))
          clear hz hzz hnx cb hjl
          have KYi := KY.out.below hBi
          obtain ⟨yc0, yc1, yc2, yc3, yc4, yc5, yl, yf⟩ := KYi.o6
          clear KYi yf
          have hNE := run_neq_drv re le bl z0 z1 z2 y0 y1 y2
          subst eBB
          have hsi := hBi.size
          rcases HNX.out with ⟨hne, hs2⟩ | ⟨heq, hs2⟩
          · have HS2 := Lib.hid hs2
            rw [decide_eq_false hne, Bool.not_false] at hNE
            clear hne hs2 HNX
            go_wp2
            refine Rel.region3 11 (by kernel_rfl) (by kernel_rfl) (by kernel_rfl) ?_
            simp only [List.take_succ_cons, List.take_zero, List.drop_succ_cons, List.drop_zero, List.filterMap_cons, List.filterMap_nil]
            iterate 3 (apply Rel.op3; (focus (first | exact Rel.gno rfl | exact Rel.gyes _ true _ rfl rfl rfl | exact Rel.gyes _ false _ rfl rfl rfl)); (focus (intro a W hb hd hbase; obtain ⟨hc, hf⟩ := bcell hb; clear hb hf; simp [Rel.deps, Rel.dep1, Rel.ons, Region.binds, Act.eval] at hd; simp only [Act.eval, List.mem_cons, List.not_mem_nil, not_or, and_imp, or_false, Array.getD_eq_getD_getElem?] at hbase; go_simp; (try go_bits); (try rfl); done)); (try simp only [List.nil_append, List.cons_append]))
            (apply Rel.op3 (.bool true); (focus (first | exact Rel.gno rfl | exact Rel.gyes _ true _ rfl rfl rfl | exact Rel.gyes _ false _ rfl rfl rfl)); (focus (intro a W hb hd hbase; obtain ⟨hc, hf⟩ := bcell hb; clear hb hf; simp [Rel.deps, Rel.dep1, Rel.ons, Region.binds, Act.eval] at hd; simp only [Act.eval, List.mem_cons, List.not_mem_nil, not_or, and_imp, or_false, Array.getD_eq_getD_getElem?] at hbase; go_simp; (try go_bits); (try rfl); done)); (try simp only [List.nil_append, List.cons_append]))
            iterate 6 (apply Rel.op3; (focus (first | exact Rel.gno rfl | exact Rel.gyes _ true _ rfl rfl rfl | exact Rel.gyes _ false _ rfl rfl rfl)); (focus (intro a W hb hd hbase; obtain ⟨hc, hf⟩ := bcell hb; clear hb hf; simp [Rel.deps, Rel.dep1, Rel.ons, Region.binds, Act.eval] at hd; simp only [Act.eval, List.mem_cons, List.not_mem_nil, not_or, and_imp, or_false, Array.getD_eq_getD_getElem?] at hbase; go_simp; (try go_bits); (try rfl); done)); (try simp only [List.nil_append, List.cons_append]))
            (apply Rel.op3 (.bool true); (focus (first | exact Rel.gno rfl | exact Rel.gyes _ true _ rfl rfl rfl | exact Rel.gyes _ false _ rfl rfl rfl)); (focus (intro a W hb hd hbase; obtain ⟨hc, hf⟩ := bcell hb; clear hb hf; simp [Rel.deps, Rel.dep1, Rel.ons, Region.binds, Act.eval] at hd; simp only [Act.eval, List.mem_cons, List.not_mem_nil, not_or, and_imp, or_false, Array.getD_eq_getD_getElem?] at hbase; go_simp; (try go_bits); (try rfl); done)); (try simp only [List.nil_append, List.cons_append]))
            refine Rel.done3 ?_
            intro x w3 h3 hx
            simp only [Rel.facts, Nat.zero_add, Nat.reduceAdd] at hx
            obtain ⟨e0, e1, e2, e3, e4, e5, e6, e7, e8, e9, e10, _⟩ := hx
            simp only [Rel.fill, Nat.zero_add, Nat.reduceAdd, e0, e1, e2, e3, e4, e5, e6, e7, e8, e9, e10]
            simp only [Act.put, List.setIfInBounds_toArray, List.set_cons_zero, List.set_cons_succ]
            clear e0 e1 e2 e3 e4 e5 e6 e7 e8 e9 e10
            have hB3 : Below w2.heap.size w2 w3 := hBi.trans (h3.mono hBi.size)
            clear b1 b2 b3 b4 b5 b6 hNE yc0 yc1 yc2 yc3 yc4 yc5 x
            go_wp2
            go_roundw
            case rel => exact ⟨j + 1, by omega, by go_num, HS2.out, hB3⟩
            case measure => simp [intOf]; omega
          · have HS2 := Lib.hid hs2
            rw [decide_eq_true heq, Bool.not_true] at hNE
            clear heq hs2 HNX
            go_wp2
            refine Rel.region3 11 (by kernel_rfl) (by kernel_rfl) (by kernel_rfl) ?_
            simp only [List.take_succ_cons, List.take_zero, List.drop_succ_cons, List.drop_zero, List.filterMap_cons, List.filterMap_nil]
            iterate 3 (apply Rel.op3; (focus (first | exact Rel.gno rfl | exact Rel.gyes _ true _ rfl rfl rfl | exact Rel.gyes _ false _ rfl rfl rfl)); (focus (intro a W hb hd hbase; obtain ⟨hc, hf⟩ := bcell hb; clear hb hf; simp [Rel.deps, Rel.dep1, Rel.ons, Region.binds, Act.eval] at hd; simp only [Act.eval, List.mem_cons, List.not_mem_nil, not_or, and_imp, or_false, Array.getD_eq_getD_getElem?] at hbase; go_simp; (try go_bits); (try rfl); done)); (try simp only [List.nil_append, List.cons_append]))
            (apply Rel.op3 (.bool true); (focus (first | exact Rel.gno rfl | exact Rel.gyes _ true _ rfl rfl rfl | exact Rel.gyes _ false _ rfl rfl rfl)); (focus (intro a W hb hd hbase; obtain ⟨hc, hf⟩ := bcell hb; clear hb hf; simp [Rel.deps, Rel.dep1, Rel.ons, Region.binds, Act.eval] at hd; simp only [Act.eval, List.mem_cons, List.not_mem_nil, not_or, and_imp, or_false, Array.getD_eq_getD_getElem?] at hbase; go_simp; (try go_bits); (try rfl); done)); (try simp only [List.nil_append, List.cons_append]))
            iterate 6 (apply Rel.op3; (focus (first | exact Rel.gno rfl | exact Rel.gyes _ true _ rfl rfl rfl | exact Rel.gyes _ false _ rfl rfl rfl)); (focus (intro a W hb hd hbase; obtain ⟨hc, hf⟩ := bcell hb; clear hb hf; simp [Rel.deps, Rel.dep1, Rel.ons, Region.binds, Act.eval] at hd; simp only [Act.eval, List.mem_cons, List.not_mem_nil, not_or, and_imp, or_false, Array.getD_eq_getD_getElem?] at hbase; go_simp; (try go_bits); (try rfl); done)); (try simp only [List.nil_append, List.cons_append]))
            (apply Rel.op3 (.bool false); (focus (first | exact Rel.gno rfl | exact Rel.gyes _ true _ rfl rfl rfl | exact Rel.gyes _ false _ rfl rfl rfl)); (focus (intro a W hb hd hbase; obtain ⟨hc, hf⟩ := bcell hb; clear hb hf; simp [Rel.deps, Rel.dep1, Rel.ons, Region.binds, Act.eval] at hd; simp only [Act.eval, List.mem_cons, List.not_mem_nil, not_or, and_imp, or_false, Array.getD_eq_getD_getElem?] at hbase; go_simp; (try go_bits); (try rfl); done)); (try simp only [List.nil_append, List.cons_append]))
            refine Rel.done3 ?_
            intro x w3 h3 hx
            simp only [Rel.facts, Nat.zero_add, Nat.reduceAdd] at hx
            obtain ⟨e0, e1, e2, e3, e4, e5, e6, e7, e8, e9, e10, _⟩ := hx
            simp only [Rel.fill, Nat.zero_add, Nat.reduceAdd, e0, e1, e2, e3, e4, e5, e6, e7, e8, e9, e10]
            simp only [Act.put, List.setIfInBounds_toArray, List.set_cons_zero, List.set_cons_succ]
            clear e0 e1 e2 e3 e4 e5 e6 e7 e8 e9 e10
            have hB3 : Below w2.heap.size w2 w3 := hBi.trans (h3.mono hBi.size)
            clear b1 b2 b3 b4 b5 b6 hNE yc0 yc1 yc2 yc3 yc4 yc5 x
            have HB3 := hB2.trans (hB3.mono hB2.size)
            have KY3 := Lib.hid (KY.out.below hB3)
            obtain ⟨yc0, yc1, yc2, yc3, yc4, yc5, yl3, yf⟩ := KY3.out.o6
            have hne3 : ¬ j = nb := by omega
            go_wp2
            refine Rel.region3 9 (by kernel_rfl) (by kernel_rfl) (by kernel_rfl) ?_
            simp only [List.take_succ_cons, List.take_zero, List.drop_succ_cons, List.drop_zero, List.filterMap_cons, List.filterMap_nil]
            iterate 1 (apply Rel.op3; (focus (first | exact Rel.gno rfl | exact Rel.gyes _ true _ rfl rfl rfl | exact Rel.gyes _ false _ rfl rfl rfl)); (focus (intro a W hb hd hbase; obtain ⟨hc, hf⟩ := bcell hb; clear hb hf; simp [Rel.deps, Rel.dep1, Rel.ons, Region.binds, Act.eval] at hd; simp only [Act.eval, List.mem_cons, List.not_mem_nil, not_or, and_imp, or_false, Array.getD_eq_getD_getElem?] at hbase; go_simp; (try go_bits); (try rfl); done)); (try simp only [List.nil_append, List.cons_append]))
            (apply Rel.empty3 126 3; (focus (first | exact Rel.gno rfl | exact Rel.gyes _ true _ rfl rfl rfl | exact Rel.gyes _ false _ rfl rfl rfl)); (focus (intro a W; go_simp; (first | done | rfl | (refine ⟨?_, ?_⟩ <;> rfl)))); (try simp only [List.nil_append, List.cons_append]))
            iterate 1 (apply Rel.op3; (focus (first | exact Rel.gno rfl | exact Rel.gyes _ true _ rfl rfl rfl | exact Rel.gyes _ false _ rfl rfl rfl)); (focus (intro a W hb hd hbase; obtain ⟨hc, hf⟩ := bcell hb; clear hb hf; simp [Rel.deps, Rel.dep1, Rel.ons, Region.binds, Act.eval] at hd; simp only [Act.eval, List.mem_cons, List.not_mem_nil, not_or, and_imp, or_false, Array.getD_eq_getD_getElem?] at hbase; go_simp; (try go_bits); (try rfl); done)); (try simp only [List.nil_append, List.cons_append]))
            refine Rel.app3 (.tmp 241) (.tmp 242) 110 rfl 126 i0 _ 3 24 Tryd.underlying110 hi iz0 iz1 iz2 rfl (by decide) m (flat3 S) (by rw [flat3_len, ← HSL.out]) (flat3_one _) (by unfold maxLen; omega) (by omega) (Rel.gno rfl) ?_ ?_
            · intro a W hb hd hbase
              simp [Rel.deps, Rel.dep1, Rel.ons, Region.binds] at hd
              obtain ⟨hs, hx⟩ := hd
              exact ⟨⟨_, rfl, by simpa using hs⟩, _, _, hx, reads_at (HS.out.below (HB3.trans (hb.mono HB3.size))) m HSL.out⟩
            (try simp only [List.nil_append, List.cons_append])
            refine Rel.callR3 (fun u _ => u = .tuple #[.bool true, (.int .i64 (0))]) (Rel.stable_eq _) (Rel.gno rfl) ?_ ?_
            · intro a W hb hd hbase
              simp [Rel.deps, Rel.dep1, Rel.ons, Region.binds, Act.eval] at hd
              obtain ⟨h0, ho⟩ := hd
              obtain ⟨B, e, h1, _, h3'⟩ := own_reads ho HSL.out
              refine ⟨65, #[.agg #[(.int .i64 (re)), (.int .i64 (le)), (.int .i64 (bl)), (.int .i64 (y0)), (.int .i64 (y1)), (.int .i64 (y2))], .slice B m e], ?_, (HEX.out W B e (y0, y1, y2) HY.out (hL.below (HB3.trans (hb.mono HB3.size))) h3').mono (fun e W' ⟨h1, h4⟩ => ⟨_, h1, rfl, h4⟩)⟩
              go_simp
              (first | done | rfl | (refine ⟨?_, ?_⟩ <;> rfl))
            (try simp only [List.nil_append, List.cons_append])
            iterate 4 (apply Rel.op3; (focus (first | exact Rel.gno rfl | exact Rel.gyes _ true _ rfl rfl rfl | exact Rel.gyes _ false _ rfl rfl rfl)); (focus (intro a W hb hd hbase; obtain ⟨hc, hf⟩ := bcell hb; clear hb hf; simp [Rel.deps, Rel.dep1, Rel.ons, Region.binds, Act.eval] at hd; simp only [Act.eval, List.mem_cons, List.not_mem_nil, not_or, and_imp, or_false, Array.getD_eq_getD_getElem?] at hbase; go_simp; (try go_bits); (try rfl); done)); (try simp only [List.nil_append, List.cons_append]))
            refine Rel.done3 ?_
            intro xx w4 h4 hx
            simp only [Rel.facts, Nat.zero_add, Nat.reduceAdd] at hx
            obtain ⟨e0, o1, e2, o3, e4, e5, e6, e7, e8, _⟩ := hx
            simp only [Rel.fill, Nat.zero_add, Nat.reduceAdd, e0, e2, e4, e5, e6, e7, e8]
            simp only [Act.put, List.setIfInBounds_toArray, List.set_cons_zero, List.set_cons_succ]
            clear e0 o1 e2 o3 e4 e5 e6 e7 e8 yc0 yc1 yc2 yc3 yc4 yc5 yf KY3
            go_wp2
            go_roundw
            case rel => exact ⟨k + 1, j, _, by omega, by omega, rfl, rfl, by go_num, .inl rfl, HS2.out, HB3.trans (h4.mono HB3.size)⟩
            case measure => simp [intOf]; omega
    · obtain rfl : k = na := by omega
      have hft : t = true := HF.out.elim id (fun h => by rw [HAL.out, List.drop_length] at h; cases h)
      subst hft
      clear HF HSB
      go_wp2
      apply HK.out
      exact hBr
end Go.Proofs.YtpkldjlljoledaaDoor

/- DriverHolds: its third loop. -/
namespace Go.Proofs.YtpkldjlljoledaaDoor
open Go.RowKit
open Calm (bcell Blk)
theorem toI_get {l : List Nat} {k : Nat} (hk : k < l.length) : (toI l).getD k 0 = ((l.getD k 0 : Nat) : Int) := by
  simp [toI, List.getD_eq_getElem?_getD, List.getElem?_map, List.getElem?_eq_getElem hk]
theorem Inc.get {n : Nat} : ∀ {l : List Nat} {f : Nat}, Inc n f l → ∀ k, k < l.length → f ≤ l.getD k 0 ∧ l.getD k 0 < n ∧ (0 < k → l.getD (k - 1) 0 < l.getD k 0)
  | i :: l, f, ⟨h1, h2, h3⟩, 0, _ => ⟨h1, h2, fun h => absurd h (by omega)⟩
  | i :: l, f, ⟨h1, h2, h3⟩, k + 1, hk => by
    obtain ⟨q1, q2, q3⟩ := Inc.get h3 k (by simpa using hk)
    refine ⟨by simp only [List.getD_cons_succ]; omega, q2, fun _ => ?_⟩
    cases k with
    | zero => simp only [List.getD_cons_succ, Nat.zero_add, Nat.sub_self, List.getD_cons_zero]; omega
    | succ k => exact q3 (by omega)
set_option maxRecDepth 100000 in
set_option maxHeartbeats 16000000 in
theorem holds_d (l : List Nat) (N li re' ie : Nat) (RB IB : Option Addr) (u0 u1 u2 u3 u4 u5 u6 u7 u8 u9 u10 u11 u12 u13 u14 u15 u16 u17 u18 u19 u20 u21 u22 u25 u26 u27 u28 u29 u30 u31 u32 u33 u34 u35 u36 u37 u38 u39 u40 u41 u42 u43 u44 u45 u46 u47 u48 u49 u50 u51 u52 u53 u54 u55 u56 u57 u58 u59 u60 u61 u62 u63 u64 u65 u66 u67 u68 u69 u70 u71 u72 u73 u74 u75 u76 u77 u78 u79 u80 u81 u82 u83 u84 u85 u86 u87 u88 u89 u90 u91 u92 u93 u94 u95 u96 u97 u98 u99 u100 u101 u102 u103 u104 u105 u106 u107 u108 u109 u110 u111 u112 u113 u114 u115 u116 u117 u118 u119 u120 u121 u122 u123 u124 u125 u126 u127 u128 u129 u130 u131 u132 u133 u134 u135 u136 u137 u138 u139 u140 u141 u142 u143 u144 u145 u146 u147 u148 u149 u150 u151 u152 u153 u154 u155 u156 u157 u158 u159 u160 u161 u162 u163 u164 u165 u166 u167 u168 u169 u170 u171 u172 u173 u174 u175 u176 u177 u178 u179 u180 u181 u182 u183 u184 u185 u186 u187 u188 u189 u190 u191 u192 u193 u194 u195 u196 u197 u198 u199 u200 u201 u202 u203 u204 u205 u206 u207 u208 u209 u210 u211 u212 u213 u214 u215 u216 u217 u218 u219 u220 u221 u222 u223 u224 u225 u226 u227 u228 u229 u230 u231 u232 u233 u234 u235 u236 u237 u238 u239 u240 u241 u242 u243 u244 u245 u246 u247 u248 u249 u250 u251 u252 u253 u254 u255 u256 u257 u258 u259 u260 u261 u262 u263 u264 u265 u266 u267 u268 u269 u270 u271 u272 u273 u274 u275 u276 u277 u278 u279 u280 u281 u282 u283 u284 u285 u286 u287 u288 u289 u290 u291 u292 u293 u294 u295 u296 u297 u298 u299 u300 u301 u305 u306 u307 u308 u309 u310 u311 u312 u313 u314 u315 u316 u317 u318 u319 u320 u321 u322 u323 u324 u325 u326 u327 u328 u329 u330 u331 u332 u333 u334 u335 u336 u337 u338 u339 u340 u341 u342 u343 u344 u345 u346 u347 u348 u349 u350 u351 u352 u353 u354 u355 u356 u357 u358 u359 u360 u361 u362 u363 u364 u365 u366 u367 u368 u369 u370 u371 : Value) (w : World)
    (HI : Hid (Cells w IB (toI l))) (HLI : Hid (li = l.length)) (HINC : Hid (Inc N 0 l)) (hN : N ≤ 6) (hli : li ≤ 6)
    (K : Act → World → Prop) (Q : Exit → Act → World → Prop)
    (HK : Hid (∀ (c304 c6 c28 c29 c305 c306 c307 c308 c309 c310 c311 c312 c313 c314 c315 c316 c317 c318 c319 c320 c321 c322 c323 c324 c325 c326 c327 c328 c329 c330 : Value), K { tmps := #[u0, u1, u2, u3, u4, u5, c6, u7, u8, u9, u10, u11, u12, u13, u14, u15, u16, u17, u18, u19, u20, u21, u22, .slice RB N re', .slice IB li ie, u25, u26, u27, c28, c29, u30, u31, u32, u33, u34, u35, u36, u37, u38, u39, u40, u41, u42, u43, u44, u45, u46, u47, u48, u49, u50, u51, u52, u53, u54, u55, u56, u57, u58, u59, u60, u61, u62, u63, u64, u65, u66, u67, u68, u69, u70, u71, u72, u73, u74, u75, u76, u77, u78, u79, u80, u81, u82, u83, u84, u85, u86, u87, u88, u89, u90, u91, u92, u93, u94, u95, u96, u97, u98, u99, u100, u101, u102, u103, u104, u105, u106, u107, u108, u109, u110, u111, u112, u113, u114, u115, u116, u117, u118, u119, u120, u121, u122, u123, u124, u125, u126, u127, u128, u129, u130, u131, u132, u133, u134, u135, u136, u137, u138, u139, u140, u141, u142, u143, u144, u145, u146, u147, u148, u149, u150, u151, u152, u153, u154, u155, u156, u157, u158, u159, u160, u161, u162, u163, u164, u165, u166, u167, u168, u169, u170, u171, u172, u173, u174, u175, u176, u177, u178, u179, u180, u181, u182, u183, u184, u185, u186, u187, u188, u189, u190, u191, u192, u193, u194, u195, u196, u197, u198, u199, u200, u201, u202, u203, u204, u205, u206, u207, u208, u209, u210, u211, u212, u213, u214, u215, u216, u217, u218, u219, u220, u221, u222, u223, u224, u225, u226, u227, u228, u229, u230, u231, u232, u233, u234, u235, u236, u237, u238, u239, u240, u241, u242, u243, u244, u245, u246, u247, u248, u249, u250, u251, u252, u253, u254, u255, u256, u257, u258, u259, u260, u261, u262, u263, u264, u265, u266, u267, u268, u269, u270, u271, u272, u273, u274, u275, u276, u277, u278, u279, u280, u281, u282, u283, u284, u285, u286, u287, u288, u289, u290, u291, u292, u293, u294, u295, u296, u297, u298, u299, u300, u301, .slice IB li ie, (.int .i64 (li)), c304, c305, c306, c307, c308, c309, c310, c311, c312, c313, c314, c315, c316, c317, c318, c319, c320, c321, c322, c323, c324, c325, c326, c327, c328, c329, c330, u331, u332, u333, u334, u335, u336, u337, u338, u339, u340, u341, u342, u343, u344, u345, u346, u347, u348, u349, u350, u351, u352, u353, u354, u355, u356, u357, u358, u359, u360, u361, u362, u363, u364, u365, u366, u367, u368, u369, u370, u371], defers := [] } w)) :
    (Code.loop (holdsLoop 2)).wp Tryd.prog (Exit.inBlock 4 (Exit.then K Q)) { tmps := #[u0, u1, u2, u3, u4, u5, u6, u7, u8, u9, u10, u11, u12, u13, u14, u15, u16, u17, u18, u19, u20, u21, u22, .slice RB N re', .slice IB li ie, u25, u26, u27, u28, u29, u30, u31, u32, u33, u34, u35, u36, u37, u38, u39, u40, u41, u42, u43, u44, u45, u46, u47, u48, u49, u50, u51, u52, u53, u54, u55, u56, u57, u58, u59, u60, u61, u62, u63, u64, u65, u66, u67, u68, u69, u70, u71, u72, u73, u74, u75, u76, u77, u78, u79, u80, u81, u82, u83, u84, u85, u86, u87, u88, u89, u90, u91, u92, u93, u94, u95, u96, u97, u98, u99, u100, u101, u102, u103, u104, u105, u106, u107, u108, u109, u110, u111, u112, u113, u114, u115, u116, u117, u118, u119, u120, u121, u122, u123, u124, u125, u126, u127, u128, u129, u130, u131, u132, u133, u134, u135, u136, u137, u138, u139, u140, u141, u142, u143, u144, u145, u146, u147, u148, u149, u150, u151, u152, u153, u154, u155, u156, u157, u158, u159, u160, u161, u162, u163, u164, u165, u166, u167, u168, u169, u170, u171, u172, u173, u174, u175, u176, u177, u178, u179, u180, u181, u182, u183, u184, u185, u186, u187, u188, u189, u190, u191, u192, u193, u194, u195, u196, u197, u198, u199, u200, u201, u202, u203, u204, u205, u206, u207, u208, u209, u210, u211, u212, u213, u214, u215, u216, u217, u218, u219, u220, u221, u222, u223, u224, u225, u226, u227, u228, u229, u230, u231, u232, u233, u234, u235, u236, u237, u238, u239, u240, u241, u242, u243, u244, u245, u246, u247, u248, u249, u250, u251, u252, u253, u254, u255, u256, u257, u258, u259, u260, u261, u262, u263, u264, u265, u266, u267, u268, u269, u270, u271, u272, u273, u274, u275, u276, u277, u278, u279, u280, u281, u282, u283, u284, u285, u286, u287, u288, u289, u290, u291, u292, u293, u294, u295, u296, u297, u298, u299, u300, u301, .slice IB li ie, (.int .i64 (li)), (.int .i64 (0)), u305, u306, u307, u308, u309, u310, u311, u312, u313, u314, u315, u316, u317, u318, u319, u320, u321, u322, u323, u324, u325, u326, u327, u328, u329, u330, u331, u332, u333, u334, u335, u336, u337, u338, u339, u340, u341, u342, u343, u344, u345, u346, u347, u348, u349, u350, u351, u352, u353, u354, u355, u356, u357, u358, u359, u360, u361, u362, u363, u364, u365, u366, u367, u368, u369, u370, u371], defers := [] } w := by
  conv => arg 2; arg 1; whnf
  conv => arg 4; dsimp only
  go_loop [304] (fun i => ∃ k : Nat, k ≤ li ∧ i = (.int .i64 (k))) (fun i => li - (intOf i).toNat)
  case atStart => exact ⟨0, Nat.zero_le _, rfl⟩
  case round =>
    obtain ⟨k, hk, rfl⟩ := hrel
    by_cases hlt : k < li
    · have hlt2 : k < l.length := by rw [← HLI.out]; exact hlt
      obtain ⟨q1, q2, q3⟩ := HINC.out.get k hlt2
      obtain ⟨b, o, eI, l1, k1⟩ := HI.out (by rw [toI_len]; omega)
      have c1 := k1 k (by rw [toI_len]; exact hlt2)
      rw [toI_get hlt2] at c1
      have c2 : 0 < k → w.cell? ⟨b, o + (k - 1), none⟩ = some (.int .i64 ((l.getD (k - 1) 0 : Nat))) := fun h => by have := k1 (k - 1) (by rw [toI_len]; omega); rw [toI_get (by omega)] at this; exact this
      generalize l.getD k 0 = x at *
      generalize l.getD (k - 1) 0 = y at *
      subst eI
      clear k1 hlt2
      by_cases h0 : 0 < k
      · obtain ⟨j, rfl⟩ : ∃ j, k = j + 1 := ⟨k - 1, by omega⟩
        have c2 := c2 h0
        have q3 := q3 h0
        simp only [Nat.add_sub_cancel] at c2
        have e1 : ((j + 1 : Nat) : Int) = (j : Int) + 1 := by omega
        rw [e1]
        have hnn : ¬ (x : Int) ≤ y := by omega
        have hn2 : (decide ((x : Int) ≤ y)) = false := by simpa using hnn
        have h01 : (0 : Int) < (j : Int) + 1 := by omega
        go_wp2
        go_round
        case rel => exact ⟨j + 1 + 1, by omega, by go_num⟩
        case measure => simp [intOf]; omega
      · obtain rfl : k = 0 := by omega
        clear c2 q3
        have e0 : ((0 : Nat) : Int) = 0 := rfl
        rw [e0]
        rw [Nat.add_zero] at c1
        go_wp2
        go_round
        case rel => exact ⟨1, by omega, by go_num⟩
        case measure => simp [intOf]; omega
    · obtain rfl : k = li := by omega
      go_wp2
      apply HK.out
end Go.Proofs.YtpkldjlljoledaaDoor
