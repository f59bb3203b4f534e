/- Branches of the switch of the law CellsActs, walked. -/
import Derived.Test.YtanmibdnnjfpbaaActU
namespace Go.Proofs.Ytanmibdnnjfpbaa
open Go.RowKit
set_option maxRecDepth 100000 in
set_option maxHeartbeats 40000000 in
theorem sw_K2out2 (B g ra m ca mm i n3 r N nd rl nm : Nat) (K : KD) (cs : List Value) (v : Nat → Nat) (M : Int → Option Nat) (q : Int → Nat) (st : Int → Int) (x0 x1 x2 x3 x4 : Int) (w W wr : World) (hlt : i < n3) (HS : Hid (Sync W B K r N cs v nd M q st g rl ra m ca nm (1 + (mm : Int)))) (HMO : Hid (K.most = 1 + (mm : Int))) (zB : w.heap.size ≤ B) (yW : Mod nowhere w W) (hab : Blk W wr.heap.size 40 #[.int .i64 x0, .int .i64 x1, .int .i64 x2, .int .i64 x3, .int .i64 x4]) (HNA : Hid (¬ In K r M q wr.heap.size ∧ ¬ InR g rl ra m wr.heap.size)) (hN4 : N ≤ 4096) (zmm : 1 + (mm : Int) ≤ 64) (hnm : nm ≤ i) (hi : i ≤ 100) (I1 : Hid (I64 x1)) (I2 : Hid (I64 x2)) (I3 : Hid (I64 x3)) (z0 : (x0 == 0) = false) (z1 : (x0 == 1) = false) (k2 : x0 = 2) (HOUT : Hid (x1 < 0 ∨ (K.k : Int) ≤ x1)) (e1 : decide (0 ≤ x1) = true) (e2 : decide (x1 < (K.k : Int)) = false)
    (u0 u1 u2 u3 u4 u5 u6 u7 u8 u11 u12 u14 u16 u17 u18 u19 u20 u21 u22 u23 u24 u25 u26 u27 u28 u29 u30 u31 u32 u33 u34 u35 u36 u37 u38 u39 u40 u41 u42 u43 u44 u45 u46 u47 u48 u49 u50 u51 u52 u53 u54 u55 u56 u57 u58 u59 u60 u61 u62 u63 u64 u65 u66 u67 u68 u69 u70 u71 u72 u73 u74 u75 u76 u77 u78 u79 u80 u81 u82 u83 u84 u85 u86 u87 u88 u89 u90 u91 u92 u93 u94 u95 u96 u97 u98 u99 u100 u102 u103 u104 u105 u106 u107 u108 u109 u110 u111 u112 u113 u114 u115 u116 u117 u118 u119 u120 u121 u122 u123 u124 u125 u126 u127 u128 u129 u130 u131 u132 u133 u134 u135 u136 u137 u138 u139 u140 u141 u142 u143 u144 u145 u146 u147 u148 u149 u150 u151 u152 u153 u154 u155 u156 u157 u158 u159 u160 u161 u162 u163 u164 u165 u166 u167 u168 u169 u170 u171 u172 u173 u174 u175 u176 u177 u178 u179 u180 u181 u182 u183 u184 u185 u186 u187 u188 u189 u190 u191 u192 u193 u194 u195 u196 u197 u198 u199 u200 u201 u202 u203 u204 u205 u206 u207 u208 u209 u210 u211 u212 u213 u214 u215 u216 u217 u218 u219 u220 u221 u222 u223 u224 u225 u226 u227 u228 u229 u230 u231 u232 u233 u234 u235 u236 u237 u238 u239 u240 u241 u242 u243 u244 u245 u246 u247 u248 u249 u250 u251 u252 u253 u254 u255 u256 u257 u258 u259 u260 u261 u262 u263 u264 u265 u266 u267 u268 u269 u270 u271 u272 u273 u274 u275 u276 u277 u278 u279 u280 u281 u282 u283 u284 u285 u286 u287 u288 u289 u290 u291 u292 u293 u294 u295 u296 u297 u298 u299 u300 u301 u302 u303 u304 u305 u306 u307 u308 u309 u310 u311 u312 u313 u314 u315 u316 u317 u318 u319 u320 u321 u322 u323 u324 u325 u326 u327 u328 u329 u330 u331 u332 u333 u334 u335 u336 u337 u338 u339 u340 u341 u342 u343 u344 u345 u346 u347 u348 u349 u350 u351 u352 u353 u354 u355 u356 u357 u358 u359 u360 u361 u362 u363 u364 : Value) (K1 : Act → World → Prop) (R1 : Exit → Act → World → Prop) (hQ : ∀ (v16 v17 v18 v19 v20 v21 v22 v23 v24 v25 v26 v94 v95 v102 v103 v104 v105 v106 v107 v108 v109 v110 v111 v112 v113 v114 v115 v116 v117 v118 v119 v120 v121 v122 v123 v124 v125 v126 v127 v128 v129 v130 v131 v132 v133 v134 v135 v136 v137 v138 v139 v140 v141 v142 v143 v144 v145 v146 v147 v148 v149 v150 v151 v152 v153 v154 v155 v156 v157 v158 v159 v160 v161 v162 v163 v164 v165 v166 v167 v168 v169 v170 v171 v172 v173 v174 v175 v176 v177 v178 v179 v180 v181 v182 v183 v184 v185 v186 v187 v188 v189 v190 v191 v192 v193 v194 v195 v196 v197 v198 v199 v200 v201 v202 v203 v204 v205 v206 v207 v208 v209 v210 v211 v212 v213 v214 v215 v216 v217 v218 v219 v220 v221 v222 v223 v224 v225 v226 v227 v228 v229 v230 v231 v232 v233 v234 v235 v236 v237 v238 v239 v240 v241 v242 v243 v244 v245 v246 v247 v248 v249 v250 v251 v252 v253 v254 v255 v256 v257 v258 v259 v260 v261 v262 v263 v264 v265 v266 v267 v268 v269 v270 v271 v272 v273 v274 v275 v276 v277 v278 v279 v280 v281 v282 v283 v284 v285 v286 v287 v288 v289 v290 v291 v292 v293 v294 v295 v296 v297 v298 v299 v300 v301 v302 v303 v304 v305 v306 v307 v308 v309 v310 v311 v312 v313 v314 v315 v316 v317 v318 v319 v320 v321 v322 v323 v324 v325 v326 v327 v328 v329 v330 v331 v332 v333 v334 v335 v336 v337 v338 v339 v340 v341 v342 v343 v344 v345 v346 v347 v348 v349 v350 v351 v352 v353 v354 v355 v356 v357 v358 v359 v360 v361 v362 v363 v364 : Value) (wx : World), (∃ (r N : Nat) (cs : List Value) (v : Nat → Nat) (nd : Nat) (M : Int → Option Nat) (q : Int → Nat) (st : Int → Int) (rl nm : Nat), Sync wx B K r N cs v nd M q st g rl ra m ca nm (1 + (mm : Int)) ∧ nm ≤ i + 1 ∧ Blk wx wr.heap.size 40 #[.int .i64 x0, .int .i64 x1, .int .i64 x2, .int .i64 x3, .int .i64 x4] ∧ Mod nowhere w wx) → K1 { tmps := #[u0, u1, u2, u3, u4, u5, u6, u7, u8, Value.pointer (some { block := K.t, off := 0 }), Value.pointer (some { block := K.c, off := 0 }), u11, u12, Value.pointer (some { block := g, off := 0 }), u14, Value.pointer (some { block := wr.heap.size, off := 0 }), v16, v17, v18, v19, v20, v21, v22, v23, v24, v25, v26, u27, u28, u29, u30, u31, u32, u33, u34, u35, u36, u37, u38, u39, u40, u41, u42, u43, u44, u45, u46, u47, u48, u49, u50, u51, u52, u53, u54, u55, u56, u57, u58, u59, u60, u61, u62, u63, u64, u65, u66, u67, u68, u69, u70, u71, u72, u73, u74, u75, u76, u77, u78, u79, u80, u81, u82, u83, u84, u85, u86, u87, u88, u89, u90, u91, u92, u93, v94, v95, u96, u97, u98, u99, u100, Value.int IntKind.i64 x0, v102, v103, v104, v105, v106, v107, v108, v109, v110, v111, v112, v113, v114, v115, v116, v117, v118, v119, v120, v121, v122, v123, v124, v125, v126, v127, v128, v129, v130, v131, v132, v133, v134, v135, v136, v137, v138, v139, v140, v141, v142, v143, v144, v145, v146, v147, v148, v149, v150, v151, v152, v153, v154, v155, v156, v157, v158, v159, v160, v161, v162, v163, v164, v165, v166, v167, v168, v169, v170, v171, v172, v173, v174, v175, v176, v177, v178, v179, v180, v181, v182, v183, v184, v185, v186, v187, v188, v189, v190, v191, v192, v193, v194, v195, v196, v197, v198, v199, v200, v201, v202, v203, v204, v205, v206, v207, v208, v209, v210, v211, v212, v213, v214, v215, v216, v217, v218, v219, v220, v221, v222, v223, v224, v225, v226, v227, v228, v229, v230, v231, v232, v233, v234, v235, v236, v237, v238, v239, v240, v241, v242, v243, v244, v245, v246, v247, v248, v249, v250, v251, v252, v253, v254, v255, v256, v257, v258, v259, v260, v261, v262, v263, v264, v265, v266, v267, v268, v269, v270, v271, v272, v273, v274, v275, v276, v277, v278, v279, v280, v281, v282, v283, v284, v285, v286, v287, v288, v289, v290, v291, v292, v293, v294, v295, v296, v297, v298, v299, v300, v301, v302, v303, v304, v305, v306, v307, v308, v309, v310, v311, v312, v313, v314, v315, v316, v317, v318, v319, v320, v321, v322, v323, v324, v325, v326, v327, v328, v329, v330, v331, v332, v333, v334, v335, v336, v337, v338, v339, v340, v341, v342, v343, v344, v345, v346, v347, v348, v349, v350, v351, v352, v353, v354, v355, v356, v357, v358, v359, v360, v361, v362, v363, v364, undef, undef, undef, undef, undef, undef, undef, undef, undef, undef, undef, undef, undef], defers := [] } wx) :
    SwWp (Exit.then K1 R1) { tmps := #[u0, u1, u2, u3, u4, u5, u6, u7, u8, Value.pointer (some { block := K.t, off := 0 }), Value.pointer (some { block := K.c, off := 0 }), u11, u12, Value.pointer (some { block := g, off := 0 }), u14, Value.pointer (some { block := wr.heap.size, off := 0 }), u16, u17, u18, u19, u20, u21, u22, u23, u24, u25, u26, u27, u28, u29, u30, u31, u32, u33, u34, u35, u36, u37, u38, u39, u40, u41, u42, u43, u44, u45, u46, u47, u48, u49, u50, u51, u52, u53, u54, u55, u56, u57, u58, u59, u60, u61, u62, u63, u64, u65, u66, u67, u68, u69, u70, u71, u72, u73, u74, u75, u76, u77, u78, u79, u80, u81, u82, u83, u84, u85, u86, u87, u88, u89, u90, u91, u92, u93, u94, u95, u96, u97, u98, u99, u100, Value.int IntKind.i64 x0, u102, u103, u104, u105, u106, u107, u108, u109, u110, u111, u112, u113, u114, u115, u116, u117, u118, u119, u120, u121, u122, u123, u124, u125, u126, u127, u128, u129, u130, u131, u132, u133, u134, u135, u136, u137, u138, u139, u140, u141, u142, u143, u144, u145, u146, u147, u148, u149, u150, u151, u152, u153, u154, u155, u156, u157, u158, u159, u160, u161, u162, u163, u164, u165, u166, u167, u168, u169, u170, u171, u172, u173, u174, u175, u176, u177, u178, u179, u180, u181, u182, u183, u184, u185, u186, u187, u188, u189, u190, u191, u192, u193, u194, u195, u196, u197, u198, u199, u200, u201, u202, u203, u204, u205, u206, u207, u208, u209, u210, u211, u212, u213, u214, u215, u216, u217, u218, u219, u220, u221, u222, u223, u224, u225, u226, u227, u228, u229, u230, u231, u232, u233, u234, u235, u236, u237, u238, u239, u240, u241, u242, u243, u244, u245, u246, u247, u248, u249, u250, u251, u252, u253, u254, u255, u256, u257, u258, u259, u260, u261, u262, u263, u264, u265, u266, u267, u268, u269, u270, u271, u272, u273, u274, u275, u276, u277, u278, u279, u280, u281, u282, u283, u284, u285, u286, u287, u288, u289, u290, u291, u292, u293, u294, u295, u296, u297, u298, u299, u300, u301, u302, u303, u304, u305, u306, u307, u308, u309, u310, u311, u312, u313, u314, u315, u316, u317, u318, u319, u320, u321, u322, u323, u324, u325, u326, u327, u328, u329, u330, u331, u332, u333, u334, u335, u336, u337, u338, u339, u340, u341, u342, u343, u344, u345, u346, u347, u348, u349, u350, u351, u352, u353, u354, u355, u356, u357, u358, u359, u360, u361, u362, u363, u364, undef, undef, undef, undef, undef, undef, undef, undef, undef, undef, undef, undef, undef], defers := [] } W := by
  unfold SwWp
  simp only [Try.f3, Option.bind, findB, reduceCtorEq, if_false, if_true, Nat.reduceEqDiff, Option.orElse, Option.getD]
  have HQ := hide hQ
  clear hQ
  have _q1 := hlt
  have _q2 := HMO
  have _q3 := zB
  have _q4 := HNA
  have _q5 := hN4
  have _q6 := zmm
  have _q7 := hnm
  have _q8 := hi
  have _q9 := I1
  have _q10 := I2
  have _q11 := I3
  clear _q1 _q2 _q3 _q4 _q5 _q6 _q7 _q8 _q9 _q10 _q11
  have c_hab := hab.cell; have f_hab := hab.frozen; have l_hab := hab.lt
  subst k2
  obtain ⟨capg, hgW, -, -⟩ := HS.out.duo.ref.open_
  have habW := hab
  have SW := HS
  clear hab c_hab f_hab l_hab
  have yWW := yW
  clear yW
  have yW := yWW
  clear yWW
  have c_habW := habW.cell; have f_habW := habW.frozen; have l_habW := habW.lt; have c_hgW := hgW.cell; have f_hgW := hgW.frozen; have l_hgW := hgW.lt
  go_wp2_with fail
  refine wp_region_still_lit (by kernel_rfl) (by kernel_rfl) ?_
  change wpStill _ _ W.drew _ _ _
  iterate 14 (with_reducible refine wpStill_step (fun K hK => ?_); go_simp; with_reducible refine hK _ ?_; clear hK K)
  with_reducible refine wpStill_nil ?_
  show Exit.then _ _ _ _ W.drew
  generalize hq : W.drew = Wa
  have mq : Mod nowhere W Wa := by rw [← hq]; exact (Mod.refl _ _).drew
  clear hq
  have habWa := habW.keep0 mq
  have hgWa := hgW.keep0 mq
  have SWa := hide (SW.out.keep0 mq)
  have yWa := yW.call0 mq
  clear mq c_habW f_habW l_habW c_hgW f_hgW l_hgW habW hgW yW
  have c_habWa := habWa.cell; have f_habWa := habWa.frozen; have l_habWa := habWa.lt; have c_hgWa := hgWa.cell; have f_hgWa := hgWa.frozen; have l_hgWa := hgWa.lt
  go_wp2_with fail
  refine wp_region_still_lit (by kernel_rfl) (by kernel_rfl) ?_
  change wpStill _ _ Wa.drew _ _ _
  iterate 2 (with_reducible refine wpStill_step (fun K hK => ?_); go_simp; with_reducible refine hK _ ?_; clear hK K)
  iterate 10 (with_reducible refine wpStill_skip_ ?_ ?_; (kernel_rfl); intro K hK; go_simp; with_reducible refine hK _ ?_; clear hK K)
  iterate 2 (with_reducible refine wpStill_step (fun K hK => ?_); go_simp; with_reducible refine hK _ ?_; clear hK K)
  iterate 5 (with_reducible refine wpStill_skip_ ?_ ?_; (kernel_rfl); intro K hK; go_simp; with_reducible refine hK _ ?_; clear hK K)
  iterate 1 (with_reducible refine wpStill_step (fun K hK => ?_); go_simp; with_reducible refine hK _ ?_; clear hK K)
  with_reducible refine wpStill_nil ?_
  show Exit.then _ _ _ _ Wa.drew
  generalize hq : Wa.drew = Wc
  have mq : Mod nowhere Wa Wc := by rw [← hq]; exact (Mod.refl _ _).drew
  clear hq
  have habWc := habWa.keep0 mq
  have hgWc := hgWa.keep0 mq
  have SWc := hide (SWa.out.keep0 mq)
  have yWc := yWa.call0 mq
  clear mq c_habWa f_habWa l_habWa c_hgWa f_hgWa l_hgWa habWa hgWa yWa
  have c_habWc := habWc.cell; have f_habWc := habWc.frozen; have l_habWc := habWc.lt; have c_hgWc := hgWc.cell; have f_hgWc := hgWc.frozen; have l_hgWc := hgWc.lt
  go_wp2_with fail
  have hcl := hide (SWc.out.duo.sys.cf.cls.keep0 (Mod.drew (Mod.refl nowhere Wc)))
  refine wp_region_still_lit (by kernel_rfl) (by kernel_rfl) ?_
  change wpStill _ _ Wc.drew _ _ _
  iterate 6 (with_reducible refine wpStill_step (fun K hK => ?_); go_simp; with_reducible refine hK _ ?_; clear hK K)
  with_reducible refine wpStill_step (fun K hK => ?_)
  go_simp
  with_reducible refine ⟨.bool false, ?_, hK _ ?_⟩
  · exact same_sym (cswap_same _ _ _ _ _ x1 x2 x3 Wc.drew hcl.out HOUT.out)
  clear hK K
  iterate 2 (with_reducible refine wpStill_step (fun K hK => ?_); go_simp; with_reducible refine hK _ ?_; clear hK K)
  iterate 10 (with_reducible refine wpStill_skip_ ?_ ?_; (kernel_rfl); intro K hK; go_simp; with_reducible refine hK _ ?_; clear hK K)
  iterate 2 (with_reducible refine wpStill_step (fun K hK => ?_); go_simp; with_reducible refine hK _ ?_; clear hK K)
  with_reducible refine wpStill_nil ?_
  show Exit.then _ _ _ _ Wc.drew
  generalize hq : Wc.drew = Wd_
  have mq : Mod nowhere Wc Wd_ := by rw [← hq]; exact (Mod.refl _ _).drew
  clear hq
  have habWd_ := habWc.keep0 mq
  have hgWd_ := hgWc.keep0 mq
  have SWd_ := hide (SWc.out.keep0 mq)
  have yWd_ := yWc.call0 mq
  clear mq c_habWc f_habWc l_habWc c_hgWc f_hgWc l_hgWc habWc hgWc yWc
  have c_habWd_ := habWd_.cell; have f_habWd_ := habWd_.frozen; have l_habWd_ := habWd_.lt; have c_hgWd_ := hgWd_.cell; have f_hgWd_ := hgWd_.frozen; have l_hgWd_ := hgWd_.lt
  go_wp2_with fail
  refine wp_region_still_lit (by kernel_rfl) (by kernel_rfl) ?_
  change wpStill _ _ Wd_.drew _ _ _
  iterate 2 (with_reducible refine wpStill_step (fun K hK => ?_); go_simp; with_reducible refine hK _ ?_; clear hK K)
  iterate 10 (with_reducible refine wpStill_skip_ ?_ ?_; (kernel_rfl); intro K hK; go_simp; with_reducible refine hK _ ?_; clear hK K)
  iterate 1 (with_reducible refine wpStill_step (fun K hK => ?_); go_simp; with_reducible refine hK _ ?_; clear hK K)
  with_reducible refine wpStill_nil ?_
  show Exit.then _ _ _ _ Wd_.drew
  go_wp2_with fail
  exact HQ.out _ _ _ _ _ _ _ _ _ _ _ _ _ _ _ _ _ _ _ _ _ _ _ _ _ _ _ _ _ _ _ _ _ _ _ _ _ _ _ _ _ _ _ _ _ _ _ _ _ _ _ _ _ _ _ _ _ _ _ _ _ _ _ _ _ _ _ _ _ _ _ _ _ _ _ _ _ _ _ _ _ _ _ _ _ _ _ _ _ _ _ _ _ _ _ _ _ _ _ _ _ _ _ _ _ _ _ _ _ _ _ _ _ _ _ _ _ _ _ _ _ _ _ _ _ _ _ _ _ _ _ _ _ _ _ _ _ _ _ _ _ _ _ _ _ _ _ _ _ _ _ _ _ _ _ _ _ _ _ _ _ _ _ _ _ _ _ _ _ _ _ _ _ _ _ _ _ _ _ _ _ _ _ _ _ _ _ _ _ _ _ _ _ _ _ _ _ _ _ _ _ _ _ _ _ _ _ _ _ _ _ _ _ _ _ _ _ _ _ _ _ _ _ _ _ _ _ _ _ _ _ _ _ _ _ _ _ _ _ _ _ _ _ _ _ _ _ _ _ _ _ _ _ _ _ _ _ _ _ _ _ _ _ _ _ _ _ _ _ _ _ _ _ _ _ _ _ ⟨r, _, _, _, _, _, _, _, rl, _, SWd_.out.keep0 (Mod.drew (Mod.refl nowhere Wd_)), by omega, habWd_.keep0 (Mod.drew (Mod.refl nowhere Wd_)), Mod.drew yWd_⟩
end Go.Proofs.Ytanmibdnnjfpbaa
