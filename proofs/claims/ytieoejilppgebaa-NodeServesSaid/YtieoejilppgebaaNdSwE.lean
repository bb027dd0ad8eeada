/- The last two loops of NodeServes. -/
import Derived.Test.YtieoejilppgebaaNdSw
namespace Go.Proofs.Ytieoejilppgebaa
open Go Go.RowKit Go.Maps
set_option maxRecDepth 1000000
def SwEP (w : World) (nb wb gb : Nat) (c0 c1 c2 c3 c4 c5 c10 c11 c12 c13 c14 c15 c16 c17 c18 c19 c26 c27 c28 c29 c30 c31 c32 c33 c34 c35 c36 c37 c38 c39 c40 c41 c42 c43 c44 c45 c46 c47 c48 c49 c50 c51 c52 c53 c54 c55 c56 c57 c58 c59 c60 c61 c62 c63 c64 c65 c66 c67 c68 c69 c70 c71 c72 c73 c74 c75 c76 c77 c78 c79 c80 c81 c82 c83 c84 c85 c86 c87 c88 c89 c90 c91 c92 c93 c94 c95 c96 c97 c98 c99 c100 c101 c102 c103 c104 c105 c106 c107 c108 c109 c110 c111 c112 c113 c114 c115 c116 c117 c118 c119 c120 c121 c122 c123 c124 c125 c126 c127 c128 c129 c130 c131 c132 c133 c134 c135 c136 c137 c138 c139 c140 c141 c142 c143 c144 c145 c146 c147 c148 c149 c150 c151 c152 c153 c154 c155 c156 c157 c158 c159 c160 c161 c162 c163 c164 c165 c166 c167 c168 c169 c170 c171 c172 c173 c174 c175 c176 c177 c178 c179 c180 c181 c182 c183 c184 c185 c186 c187 c188 c189 c190 c191 c192 c193 c194 c195 c196 c197 c198 c199 c200 c201 c202 c203 c204 c205 c206 c207 c208 c209 c210 c211 c212 c213 c214 c215 c216 c217 c218 c219 c220 c221 c222 c223 c224 c225 c226 c227 c228 c229 c230 c231 c232 c233 c234 c235 c236 c237 c238 c239 c240 c241 c242 c243 c244 c245 c246 c247 c248 c249 c250 c251 c252 c253 c254 c255 c256 c257 c258 c259 c260 c261 c262 c263 c264 c265 c266 c267 c268 c269 c270 c271 c272 c273 c274 c275 c276 c277 c278 c279 c280 c281 c282 c283 c284 c285 c286 c287 c288 c289 c290 c291 c292 c293 c294 c295 c296 c297 c298 c299 c300 : Value) (e : Exit) (a' : Act) (w' : World) : Prop := e = .normal ∧
  ∃ v6 v20 v21 v22 v23 v24 v25 v301 v302 v303 v304 v305 v306 v307 v308 v309 v310 v311 v312 v313 v314 v315 v316 v317 v318 v319 v320 v321 v322 v323 v324 v325 v326 v327 v328 v329 v330 v331 v332 v333 v334 v335 v336 v337 v338 v339 v340 v341 v342 v343 : Value, a' = ⟨#[c0, c1, c2, c3, c4, c5, v6, .pointer (some ⟨nb, 0, none⟩), .pointer (some ⟨gb, 0, none⟩), .pointer (some ⟨wb, 0, none⟩), c10, c11, c12, c13, c14, c15, c16, c17, c18, c19, v20, v21, v22, v23, v24, v25, c26, c27, c28, c29, c30, c31, c32, c33, c34, c35, c36, c37, c38, c39, c40, c41, c42, c43, c44, c45, c46, c47, c48, c49, c50, c51, c52, c53, c54, c55, c56, c57, c58, c59, c60, c61, c62, c63, c64, c65, c66, c67, c68, c69, c70, c71, c72, c73, c74, c75, c76, c77, c78, c79, c80, c81, c82, c83, c84, c85, c86, c87, c88, c89, c90, c91, c92, c93, c94, c95, c96, c97, c98, c99, c100, c101, c102, c103, c104, c105, c106, c107, c108, c109, c110, c111, c112, c113, c114, c115, c116, c117, c118, c119, c120, c121, c122, c123, c124, c125, c126, c127, c128, c129, c130, c131, c132, c133, c134, c135, c136, c137, c138, c139, c140, c141, c142, c143, c144, c145, c146, c147, c148, c149, c150, c151, c152, c153, c154, c155, c156, c157, c158, c159, c160, c161, c162, c163, c164, c165, c166, c167, c168, c169, c170, c171, c172, c173, c174, c175, c176, c177, c178, c179, c180, c181, c182, c183, c184, c185, c186, c187, c188, c189, c190, c191, c192, c193, c194, c195, c196, c197, c198, c199, c200, c201, c202, c203, c204, c205, c206, c207, c208, c209, c210, c211, c212, c213, c214, c215, c216, c217, c218, c219, c220, c221, c222, c223, c224, c225, c226, c227, c228, c229, c230, c231, c232, c233, c234, c235, c236, c237, c238, c239, c240, c241, c242, c243, c244, c245, c246, c247, c248, c249, c250, c251, c252, c253, c254, c255, c256, c257, c258, c259, c260, c261, c262, c263, c264, c265, c266, c267, c268, c269, c270, c271, c272, c273, c274, c275, c276, c277, c278, c279, c280, c281, c282, c283, c284, c285, c286, c287, c288, c289, c290, c291, c292, c293, c294, c295, c296, c297, c298, c299, c300, v301, v302, v303, v304, v305, v306, v307, v308, v309, v310, v311, v312, v313, v314, v315, v316, v317, v318, v319, v320, v321, v322, v323, v324, v325, v326, v327, v328, v329, v330, v331, v332, v333, v334, v335, v336, v337, v338, v339, v340, v341, v342, v343], []⟩ ∧ Keep NoB w w'
set_option maxHeartbeats 40000000 in
theorem sw_end {w V : World} {nb wb gb : Nat} {b : Nat → NB} {G : List EN} {W : Nat → Nat} {s : Nat → NS} {RD : List RR} {ra : Option Addr} {rc k : Nat} (hk150 : k ≤ 150) (hS : SV w V nb wb gb b G W W s RD (.slice ra RD.length rc) k) (c0 c1 c2 c3 c4 c5 c6 c10 c11 c12 c13 c14 c15 c16 c17 c18 c19 c21 c22 c23 c24 c25 c26 c27 c28 c29 c30 c31 c32 c33 c34 c35 c36 c37 c38 c39 c40 c41 c42 c43 c44 c45 c46 c47 c48 c49 c50 c51 c52 c53 c54 c55 c56 c57 c58 c59 c60 c61 c62 c63 c64 c65 c66 c67 c68 c69 c70 c71 c72 c73 c74 c75 c76 c77 c78 c79 c80 c81 c82 c83 c84 c85 c86 c87 c88 c89 c90 c91 c92 c93 c94 c95 c96 c97 c98 c99 c100 c101 c102 c103 c104 c105 c106 c107 c108 c109 c110 c111 c112 c113 c114 c115 c116 c117 c118 c119 c120 c121 c122 c123 c124 c125 c126 c127 c128 c129 c130 c131 c132 c133 c134 c135 c136 c137 c138 c139 c140 c141 c142 c143 c144 c145 c146 c147 c148 c149 c150 c151 c152 c153 c154 c155 c156 c157 c158 c159 c160 c161 c162 c163 c164 c165 c166 c167 c168 c169 c170 c171 c172 c173 c174 c175 c176 c177 c178 c179 c180 c181 c182 c183 c184 c185 c186 c187 c188 c189 c190 c191 c192 c193 c194 c195 c196 c197 c198 c199 c200 c201 c202 c203 c204 c205 c206 c207 c208 c209 c210 c211 c212 c213 c214 c215 c216 c217 c218 c219 c220 c221 c222 c223 c224 c225 c226 c227 c228 c229 c230 c231 c232 c233 c234 c235 c236 c237 c238 c239 c240 c241 c242 c243 c244 c245 c246 c247 c248 c249 c250 c251 c252 c253 c254 c255 c256 c257 c258 c259 c260 c261 c262 c263 c264 c265 c266 c267 c268 c269 c270 c271 c272 c273 c274 c275 c276 c277 c278 c279 c280 c281 c282 c283 c284 c285 c286 c287 c288 c289 c290 c291 c292 c293 c294 c295 c296 c297 c298 c299 c300 c301 c302 c303 c304 c305 c306 c307 c308 c309 c310 c311 c312 c313 c314 c315 c316 c317 c318 c319 c320 c321 c322 c323 c324 c325 c326 c327 c328 c329 c330 c331 c332 c333 c334 c335 c336 c337 c338 c339 c340 c341 c342 c343 : Value) :
    Code.wp Try.prog swE (SwEP w nb wb gb c0 c1 c2 c3 c4 c5 c10 c11 c12 c13 c14 c15 c16 c17 c18 c19 c26 c27 c28 c29 c30 c31 c32 c33 c34 c35 c36 c37 c38 c39 c40 c41 c42 c43 c44 c45 c46 c47 c48 c49 c50 c51 c52 c53 c54 c55 c56 c57 c58 c59 c60 c61 c62 c63 c64 c65 c66 c67 c68 c69 c70 c71 c72 c73 c74 c75 c76 c77 c78 c79 c80 c81 c82 c83 c84 c85 c86 c87 c88 c89 c90 c91 c92 c93 c94 c95 c96 c97 c98 c99 c100 c101 c102 c103 c104 c105 c106 c107 c108 c109 c110 c111 c112 c113 c114 c115 c116 c117 c118 c119 c120 c121 c122 c123 c124 c125 c126 c127 c128 c129 c130 c131 c132 c133 c134 c135 c136 c137 c138 c139 c140 c141 c142 c143 c144 c145 c146 c147 c148 c149 c150 c151 c152 c153 c154 c155 c156 c157 c158 c159 c160 c161 c162 c163 c164 c165 c166 c167 c168 c169 c170 c171 c172 c173 c174 c175 c176 c177 c178 c179 c180 c181 c182 c183 c184 c185 c186 c187 c188 c189 c190 c191 c192 c193 c194 c195 c196 c197 c198 c199 c200 c201 c202 c203 c204 c205 c206 c207 c208 c209 c210 c211 c212 c213 c214 c215 c216 c217 c218 c219 c220 c221 c222 c223 c224 c225 c226 c227 c228 c229 c230 c231 c232 c233 c234 c235 c236 c237 c238 c239 c240 c241 c242 c243 c244 c245 c246 c247 c248 c249 c250 c251 c252 c253 c254 c255 c256 c257 c258 c259 c260 c261 c262 c263 c264 c265 c266 c267 c268 c269 c270 c271 c272 c273 c274 c275 c276 c277 c278 c279 c280 c281 c282 c283 c284 c285 c286 c287 c288 c289 c290 c291 c292 c293 c294 c295 c296 c297 c298 c299 c300) ⟨#[c0, c1, c2, c3, c4, c5, c6, .pointer (some ⟨nb, 0, none⟩), .pointer (some ⟨gb, 0, none⟩), .pointer (some ⟨wb, 0, none⟩), c10, c11, c12, c13, c14, c15, c16, c17, c18, c19, .int .i64 0, c21, c22, c23, c24, c25, c26, c27, c28, c29, c30, c31, c32, c33, c34, c35, c36, c37, c38, c39, c40, c41, c42, c43, c44, c45, c46, c47, c48, c49, c50, c51, c52, c53, c54, c55, c56, c57, c58, c59, c60, c61, c62, c63, c64, c65, c66, c67, c68, c69, c70, c71, c72, c73, c74, c75, c76, c77, c78, c79, c80, c81, c82, c83, c84, c85, c86, c87, c88, c89, c90, c91, c92, c93, c94, c95, c96, c97, c98, c99, c100, c101, c102, c103, c104, c105, c106, c107, c108, c109, c110, c111, c112, c113, c114, c115, c116, c117, c118, c119, c120, c121, c122, c123, c124, c125, c126, c127, c128, c129, c130, c131, c132, c133, c134, c135, c136, c137, c138, c139, c140, c141, c142, c143, c144, c145, c146, c147, c148, c149, c150, c151, c152, c153, c154, c155, c156, c157, c158, c159, c160, c161, c162, c163, c164, c165, c166, c167, c168, c169, c170, c171, c172, c173, c174, c175, c176, c177, c178, c179, c180, c181, c182, c183, c184, c185, c186, c187, c188, c189, c190, c191, c192, c193, c194, c195, c196, c197, c198, c199, c200, c201, c202, c203, c204, c205, c206, c207, c208, c209, c210, c211, c212, c213, c214, c215, c216, c217, c218, c219, c220, c221, c222, c223, c224, c225, c226, c227, c228, c229, c230, c231, c232, c233, c234, c235, c236, c237, c238, c239, c240, c241, c242, c243, c244, c245, c246, c247, c248, c249, c250, c251, c252, c253, c254, c255, c256, c257, c258, c259, c260, c261, c262, c263, c264, c265, c266, c267, c268, c269, c270, c271, c272, c273, c274, c275, c276, c277, c278, c279, c280, c281, c282, c283, c284, c285, c286, c287, c288, c289, c290, c291, c292, c293, c294, c295, c296, c297, c298, c299, c300, c301, c302, c303, c304, c305, c306, c307, c308, c309, c310, c311, c312, c313, c314, c315, c316, c317, c318, c319, c320, c321, c322, c323, c324, c325, c326, c327, c328, c329, c330, c331, c332, c333, c334, c335, c336, c337, c338, c339, c340, c341, c342, c343], []⟩ V := by
  have HS := Lib.hid hS
  clear hS
  conv => arg 2; whnf
  go_wp2_with fail
  go_loopw [20] (fun iv wr => ∃ j : Nat, j ≤ 2 ∧ iv = .int .i64 (j : Int) ∧ SV w wr nb wb gb b G W W s RD (.slice ra RD.length rc) k) (fun iv _ => 2 - (intOf iv).toNat)
  case atStart => exact ⟨0, by decide, rfl, HS.out⟩
  case round =>
    clear HS
    obtain ⟨j, hj, rfl, S⟩ := hrel
    have HSj := Lib.hid S
    clear S
    by_cases hj2 : j < 2
    · have d3 : decide ((j : Int) < 2) = true := decide_eq_true (by omega)
      have hwj : IntKind.i64.wrap ((j : Int) + 1) = (j : Int) + 1 := IntWalk.i64_in _ (by omega)
      obtain ⟨ga, gc, hgb, O⟩ := HSj.out.log
      have c0 := blk_cell hgb 0
      have cl := blk_lt hgb
      simp at c0
      have hGl : G.length ≤ 200 := by have := HSj.out.gl; omega
      clear hgb O
      go_wp2_with fail
      go_loopw [310] (fun iv wr => ∃ i : Nat, i ≤ G.length ∧ iv = .int .i64 (i : Int) ∧ SV w wr nb wb gb b G W W s RD (.slice ra RD.length rc) k) (fun iv _ => G.length - (intOf iv).toNat)
      case atStart => exact ⟨0, Nat.zero_le _, rfl, HSj.out⟩
      case round =>
        clear HSj c0 cl
        obtain ⟨i, hi, rfl, S⟩ := hrel
        have HSi := Lib.hid S
        clear S
        by_cases hil : i < G.length
        · have d8 : decide ((i : Int) < (G.length : Int)) = true := decide_eq_true (by omega)
          have hwi : IntKind.i64.wrap ((i : Int) + 1) = (i : Int) + 1 := IntWalk.i64_in _ (by omega)
          obtain ⟨x, hx⟩ : ∃ x, G[i]? = some x := ⟨_, List.getElem?_eq_getElem hil⟩
          have hxk : x.k.size ≤ maxLen := by have := (HSi.out.gk x (List.mem_of_getElem? hx)).1; unfold maxLen; omega
          obtain ⟨ga2, gc2, hgb, O⟩ := HSi.out.log
          obtain ⟨g, cg, hvv, hg1, hg2, hcx⟩ := O.cells enCells_len hx
          cases hvv
          have Hgb := Lib.hid hgb
          have HO := Lib.hid O
          have m4 := hcx 4 _ rfl
          have c0 := blk_cell hgb 0
          have cl := blk_lt hgb
          simp at c0
          have n0 := node_cell HSi.out hj2
          have nl := blk_lt HSi.out.nodes
          have hk2 : (j : Int) < 2 := by omega
          have hk3 : (0 : Int) ≤ (j : Int) := by omega
          have hk4 : ¬ (j : Int) < 0 := by omega
          have hk5 : ((j : Int)).toNat = j := by omega
          obtain ⟨⟨xv, ok⟩, hp⟩ : ∃ p, nPk (s j) x.k = p := ⟨_, rfl⟩
          have Hp := Lib.hid hp
          clear hgb O hx hcx hp
          go_wp2_with fail
          refine (npeek_any _ (b j) (s j) (HSi.out.nl j hj2).D x.k hxk xv ok Hp.out).mono ?_
          rintro _ w5 ⟨rfl, k5⟩
          have kx := k5.alloc (.cells #[.int .i64 xv.e, .int .i64 xv.i, .bool xv.th, .string xv.tx] 29)
          have HD5 := Lib.hid (HSi.out.keep0 kx)
          have Hgb5 := Lib.hid (blk_keep Hgb.out kx (fun h => h))
          have HO5 := Lib.hid (HO.out.keep kx (fun _ _ h => h))
          have x5 := blk_new w5 (.cells #[.int .i64 xv.e, .int .i64 xv.i, .bool xv.th, .string xv.tx] 29)
          clear c0 cl n0 nl m4 kx Hgb HO
          go_wp2_with fail
          generalize w5.alloc (.cells #[.int .i64 xv.e, .int .i64 xv.i, .bool xv.th, .string xv.tx] 29) = w6 at HD5 Hgb5 HO5 x5 ⊢
          generalize w5.heap.size = qb at x5 ⊢
          cases ok
          · refine wp_region_pl (fun _ => True) [] (.rd 0 (.rd 1 (.rd 2 (.rd 3 (.rd 4 (.rd 5 (.rd 6 (.rd 7 (.rd 8 (.rd 9 (.one 10 (.rd 11 (.rd 12 .done))))))))))))) (by kernel_rfl) (by kernel_rfl) (by kernel_rfl) (by kernel_rfl) (by intro c b d v u h; first | (cases d <;> exact h) | exact Exit.noConfusion (And.left h : Exit.panic c = Exit.normal)) ?_
            have kd0 : Keep NoB w6 w6.drew := (Keep.refl NoB w6).drew
            have HD6 := Lib.hid (HD5.out.keep0 kd0)
            clear kd0 x5 HD5 Hgb5 HO5
            generalize w6.drew = w7 at HD6 ⊢
            first
              | refine pl_get (i := 0) rfl rfl trivial rfl (fun u hu => by (try dsimp only at hu); go_simp; rfl) (by simp only [List.setIfInBounds_toArray, List.set_cons_succ, List.set_cons_zero]; rfl) ?_
              | refine pl_skip (i := 0) rfl rfl trivial rfl (by simp only [List.setIfInBounds_toArray, List.set_cons_succ, List.set_cons_zero]; rfl) ?_
            first
              | refine pl_get (i := 1) rfl rfl trivial rfl (fun u hu => by (try dsimp only at hu); go_simp; rfl) (by simp only [List.setIfInBounds_toArray, List.set_cons_succ, List.set_cons_zero]; rfl) ?_
              | refine pl_skip (i := 1) rfl rfl trivial rfl (by simp only [List.setIfInBounds_toArray, List.set_cons_succ, List.set_cons_zero]; rfl) ?_
            first
              | refine pl_get (i := 2) rfl rfl trivial rfl (fun u hu => by (try dsimp only at hu); go_simp; rfl) (by simp only [List.setIfInBounds_toArray, List.set_cons_succ, List.set_cons_zero]; rfl) ?_
              | refine pl_skip (i := 2) rfl rfl trivial rfl (by simp only [List.setIfInBounds_toArray, List.set_cons_succ, List.set_cons_zero]; rfl) ?_
            first
              | refine pl_get (i := 3) rfl rfl trivial rfl (fun u hu => by (try dsimp only at hu); go_simp; rfl) (by simp only [List.setIfInBounds_toArray, List.set_cons_succ, List.set_cons_zero]; rfl) ?_
              | refine pl_skip (i := 3) rfl rfl trivial rfl (by simp only [List.setIfInBounds_toArray, List.set_cons_succ, List.set_cons_zero]; rfl) ?_
            first
              | refine pl_get (i := 4) rfl rfl trivial rfl (fun u hu => by (try dsimp only at hu); go_simp; rfl) (by simp only [List.setIfInBounds_toArray, List.set_cons_succ, List.set_cons_zero]; rfl) ?_
              | refine pl_skip (i := 4) rfl rfl trivial rfl (by simp only [List.setIfInBounds_toArray, List.set_cons_succ, List.set_cons_zero]; rfl) ?_
            first
              | refine pl_get (i := 5) rfl rfl trivial rfl (fun u hu => by (try dsimp only at hu); go_simp; rfl) (by simp only [List.setIfInBounds_toArray, List.set_cons_succ, List.set_cons_zero]; rfl) ?_
              | refine pl_skip (i := 5) rfl rfl trivial rfl (by simp only [List.setIfInBounds_toArray, List.set_cons_succ, List.set_cons_zero]; rfl) ?_
            first
              | refine pl_get (i := 6) rfl rfl trivial rfl (fun u hu => by (try dsimp only at hu); go_simp; rfl) (by simp only [List.setIfInBounds_toArray, List.set_cons_succ, List.set_cons_zero]; rfl) ?_
              | refine pl_skip (i := 6) rfl rfl trivial rfl (by simp only [List.setIfInBounds_toArray, List.set_cons_succ, List.set_cons_zero]; rfl) ?_
            first
              | refine pl_get (i := 7) rfl rfl trivial rfl (fun u hu => by (try dsimp only at hu); go_simp; rfl) (by simp only [List.setIfInBounds_toArray, List.set_cons_succ, List.set_cons_zero]; rfl) ?_
              | refine pl_skip (i := 7) rfl rfl trivial rfl (by simp only [List.setIfInBounds_toArray, List.set_cons_succ, List.set_cons_zero]; rfl) ?_
            first
              | refine pl_get (i := 8) rfl rfl trivial rfl (fun u hu => by (try dsimp only at hu); go_simp; rfl) (by simp only [List.setIfInBounds_toArray, List.set_cons_succ, List.set_cons_zero]; rfl) ?_
              | refine pl_skip (i := 8) rfl rfl trivial rfl (by simp only [List.setIfInBounds_toArray, List.set_cons_succ, List.set_cons_zero]; rfl) ?_
            first
              | refine pl_get (i := 9) rfl rfl trivial rfl (fun u hu => by (try dsimp only at hu); go_simp; rfl) (by simp only [List.setIfInBounds_toArray, List.set_cons_succ, List.set_cons_zero]; rfl) ?_
              | refine pl_skip (i := 9) rfl rfl trivial rfl (by simp only [List.setIfInBounds_toArray, List.set_cons_succ, List.set_cons_zero]; rfl) ?_
            refine pl_one (i := 10) rfl ?_
            go_wp2_with (fail)
            refine pl_next (fun _ => trivial) ?_
            first
              | refine pl_get (i := 11) rfl rfl trivial rfl (fun u hu => by (try dsimp only at hu); go_simp; rfl) (by simp only [List.setIfInBounds_toArray, List.set_cons_succ, List.set_cons_zero]; rfl) ?_
              | refine pl_skip (i := 11) rfl rfl trivial rfl (by simp only [List.setIfInBounds_toArray, List.set_cons_succ, List.set_cons_zero]; rfl) ?_
            first
              | refine pl_get (i := 12) rfl rfl trivial rfl (fun u hu => by (try dsimp only at hu); go_simp; rfl) (by simp only [List.setIfInBounds_toArray, List.set_cons_succ, List.set_cons_zero]; rfl) ?_
              | refine pl_skip (i := 12) rfl rfl trivial rfl (by simp only [List.setIfInBounds_toArray, List.set_cons_succ, List.set_cons_zero]; rfl) ?_
            refine pl_done ?_
            go_wp2_with fail
            go_roundw
            case rel => exact ⟨i + 1, hil, by go_num, HD6.out⟩
            case measure => simp [intOf]; omega
          · have hf : ∃ y, It.fnd (s j).N x.k = some y ∧ y.v = xv := by
              have h := Hp.out
              unfold nPk at h
              split at h
              · cases h
              · cases hf : It.fnd (s j).N x.k with
                | none => rw [pk_none hf] at h; cases h
                | some y => rw [pk_some hf] at h; cases h; exact ⟨y, rfl, rfl⟩
            obtain ⟨y, hfx, hyv⟩ := hf
            obtain ⟨av, hav, hav2, hav3⟩ := (HD5.out.nn j hj2).items y (fnd_mem hfx)
            rw [fnd_key hfx] at hav3
            rw [hyv] at hav hav3
            obtain ⟨mx, hmx⟩ : ∃ n, max av (W j) = n := ⟨_, rfl⟩
            have hmi : (if av < W j then ((W j : Nat) : Int) else ((av : Nat) : Int)) = (mx : Int) := by split <;> omega
            rw [hmx] at hav3
            have Hav3 := Lib.hid hav3
            clear hmx hav3 hfx Hp hyv
            have z0 := blk_cell x5 0
            have z1 := blk_cell x5 1
            have z2 := blk_cell x5 2
            have z3 := blk_cell x5 3
            have p0 := place_cell HD5.out hj2
            simp at z0 z1 z2 z3
            refine wp_region_pl (fun u => u.cell? ⟨qb, 0, none⟩ = some (.int .i64 xv.e) ∧ u.cell? ⟨qb, 1, none⟩ = some (.int .i64 xv.i) ∧ u.cell? ⟨qb, 2, none⟩ = some (.bool xv.th) ∧ u.cell? ⟨qb, 3, none⟩ = some (.string xv.tx) ∧ u.cell? ⟨wb, j, none⟩ = some (.int .i64 (W j : Int))) [] (.rd 0 (.rd 1 (.rd 2 (.rd 3 (.rd 4 (.rd 5 (.rd 6 (.rd 7 (.rd 8 (.rd 9 (.one 10 (.rd 11 (.rd 12 .done))))))))))))) (by kernel_rfl) (by kernel_rfl) (by kernel_rfl) (by kernel_rfl) (by intro c b d v u h; first | (cases d <;> exact h) | exact Exit.noConfusion (And.left h : Exit.panic c = Exit.normal)) ?_
            have kd0 : Keep NoB w6 w6.drew := (Keep.refl NoB w6).drew
            have HD6 := Lib.hid (HD5.out.keep0 kd0)
            have Hgb6 := Lib.hid (blk_keep Hgb5.out kd0 (fun h => h))
            have HO6 := Lib.hid (HO5.out.keep kd0 (fun _ _ h => h))
            have HS6 := Lib.hid (show w6.drew.cell? ⟨qb, 0, none⟩ = some (.int .i64 xv.e) ∧ w6.drew.cell? ⟨qb, 1, none⟩ = some (.int .i64 xv.i) ∧ w6.drew.cell? ⟨qb, 2, none⟩ = some (.bool xv.th) ∧ w6.drew.cell? ⟨qb, 3, none⟩ = some (.string xv.tx) ∧ w6.drew.cell? ⟨wb, j, none⟩ = some (.int .i64 (W j : Int)) from ⟨z0, z1, z2, z3, p0⟩)
            clear kd0 x5 HD5 Hgb5 HO5 z0 z1 z2 z3 p0
            generalize w6.drew = w7 at HD6 Hgb6 HO6 HS6 ⊢
            first
              | refine pl_get (i := 0) rfl rfl HS6.out rfl (fun u hu => by (try dsimp only at hu); go_simp; rfl) (by simp only [List.setIfInBounds_toArray, List.set_cons_succ, List.set_cons_zero]; rfl) ?_
              | refine pl_skip (i := 0) rfl rfl HS6.out rfl (by simp only [List.setIfInBounds_toArray, List.set_cons_succ, List.set_cons_zero]; rfl) ?_
            first
              | refine pl_get (i := 1) rfl rfl HS6.out rfl (fun u hu => by (try dsimp only at hu); go_simp; rfl) (by simp only [List.setIfInBounds_toArray, List.set_cons_succ, List.set_cons_zero]; rfl) ?_
              | refine pl_skip (i := 1) rfl rfl HS6.out rfl (by simp only [List.setIfInBounds_toArray, List.set_cons_succ, List.set_cons_zero]; rfl) ?_
            first
              | refine pl_get (i := 2) rfl rfl HS6.out rfl (fun u hu => by (try dsimp only at hu); go_simp; rfl) (by simp only [List.setIfInBounds_toArray, List.set_cons_succ, List.set_cons_zero]; rfl) ?_
              | refine pl_skip (i := 2) rfl rfl HS6.out rfl (by simp only [List.setIfInBounds_toArray, List.set_cons_succ, List.set_cons_zero]; rfl) ?_
            first
              | refine pl_get (i := 3) rfl rfl HS6.out rfl (fun u hu => by (try dsimp only at hu); go_simp; rfl) (by simp only [List.setIfInBounds_toArray, List.set_cons_succ, List.set_cons_zero]; rfl) ?_
              | refine pl_skip (i := 3) rfl rfl HS6.out rfl (by simp only [List.setIfInBounds_toArray, List.set_cons_succ, List.set_cons_zero]; rfl) ?_
            first
              | refine pl_get (i := 4) rfl rfl HS6.out rfl (fun u hu => by (try dsimp only at hu); go_simp; rfl) (by simp only [List.setIfInBounds_toArray, List.set_cons_succ, List.set_cons_zero]; rfl) ?_
              | refine pl_skip (i := 4) rfl rfl HS6.out rfl (by simp only [List.setIfInBounds_toArray, List.set_cons_succ, List.set_cons_zero]; rfl) ?_
            first
              | refine pl_get (i := 5) rfl rfl HS6.out rfl (fun u hu => by (try dsimp only at hu); go_simp; rfl) (by simp only [List.setIfInBounds_toArray, List.set_cons_succ, List.set_cons_zero]; rfl) ?_
              | refine pl_skip (i := 5) rfl rfl HS6.out rfl (by simp only [List.setIfInBounds_toArray, List.set_cons_succ, List.set_cons_zero]; rfl) ?_
            first
              | refine pl_get (i := 6) rfl rfl HS6.out rfl (fun u hu => by (try dsimp only at hu); go_simp; rfl) (by simp only [List.setIfInBounds_toArray, List.set_cons_succ, List.set_cons_zero]; rfl) ?_
              | refine pl_skip (i := 6) rfl rfl HS6.out rfl (by simp only [List.setIfInBounds_toArray, List.set_cons_succ, List.set_cons_zero]; rfl) ?_
            first
              | refine pl_get (i := 7) rfl rfl HS6.out rfl (fun u hu => by (try dsimp only at hu); go_simp; rfl) (by simp only [List.setIfInBounds_toArray, List.set_cons_succ, List.set_cons_zero]; rfl) ?_
              | refine pl_skip (i := 7) rfl rfl HS6.out rfl (by simp only [List.setIfInBounds_toArray, List.set_cons_succ, List.set_cons_zero]; rfl) ?_
            first
              | refine pl_get (i := 8) rfl rfl HS6.out rfl (fun u hu => by (try dsimp only at hu); go_simp; rfl) (by simp only [List.setIfInBounds_toArray, List.set_cons_succ, List.set_cons_zero]; rfl) ?_
              | refine pl_skip (i := 8) rfl rfl HS6.out rfl (by simp only [List.setIfInBounds_toArray, List.set_cons_succ, List.set_cons_zero]; rfl) ?_
            first
              | refine pl_get (i := 9) rfl rfl HS6.out rfl (fun u hu => by (try dsimp only at hu); go_simp; rfl) (by simp only [List.setIfInBounds_toArray, List.set_cons_succ, List.set_cons_zero]; rfl) ?_
              | refine pl_skip (i := 9) rfl rfl HS6.out rfl (by simp only [List.setIfInBounds_toArray, List.set_cons_succ, List.set_cons_zero]; rfl) ?_
            refine pl_one (i := 10) rfl ?_
            go_wp2_with ((go_at_call 18; refine (at_any _ w.heap.size gb (some ⟨g, 0, none⟩) gc2 G x.k mx Hgb6.out HO6.out (by omega) ⟨xv.e, xv.i, xv.th, xv.tx, 0⟩ Hav3.out.symm).mono ?_; rintro _ w8 ⟨rfl, k8⟩; simp only []))
            have HD8 := Lib.hid (HD6.out.keep0 k8)
            have HS8 := Lib.hid (show w8.cell? ⟨qb, 0, none⟩ = some (.int .i64 xv.e) ∧ w8.cell? ⟨qb, 1, none⟩ = some (.int .i64 xv.i) ∧ w8.cell? ⟨qb, 2, none⟩ = some (.bool xv.th) ∧ w8.cell? ⟨qb, 3, none⟩ = some (.string xv.tx) ∧ w8.cell? ⟨wb, j, none⟩ = some (.int .i64 (W j : Int)) from ⟨k8.some HS6.out.1 (fun h => h), k8.some HS6.out.2.1 (fun h => h), k8.some HS6.out.2.2.1 (fun h => h), k8.some HS6.out.2.2.2.1 (fun h => h), k8.some HS6.out.2.2.2.2 (fun h => h)⟩)
            refine pl_next (fun _ => HS8.out) ?_
            first
              | refine pl_get (i := 11) rfl rfl HS8.out rfl (fun u hu => by (try dsimp only at hu); go_simp; rfl) (by simp only [List.setIfInBounds_toArray, List.set_cons_succ, List.set_cons_zero]; rfl) ?_
              | refine pl_skip (i := 11) rfl rfl HS8.out rfl (by simp only [List.setIfInBounds_toArray, List.set_cons_succ, List.set_cons_zero]; rfl) ?_
            first
              | refine pl_get (i := 12) rfl rfl HS8.out rfl (fun u hu => by (try dsimp only at hu); go_simp; rfl) (by simp only [List.setIfInBounds_toArray, List.set_cons_succ, List.set_cons_zero]; rfl) ?_
              | refine pl_skip (i := 12) rfl rfl HS8.out rfl (by simp only [List.setIfInBounds_toArray, List.set_cons_succ, List.set_cons_zero]; rfl) ?_
            refine pl_done ?_
            clear HD6 Hgb6 HO6 HS6 k8 HS8 hmi hav hav2
            go_wp2_with fail
            go_roundw
            case rel => exact ⟨i + 1, hil, by go_num, HD8.out⟩
            case measure => simp [intOf]; omega
        · have d8 : decide ((i : Int) < (G.length : Int)) = false := decide_eq_false (by omega)
          go_wp2_with fail
          go_roundw
          case rel => exact ⟨j + 1, hj2, by go_num, HSi.out⟩
          case measure => simp [intOf]; omega
    · have d3 : decide ((j : Int) < 2) = false := decide_eq_false (by omega)
      go_wp2_with fail
      (try simp only [Exit.inBlock, Exit.then])
      unfold SwEP
      refine ⟨rfl, ?_⟩
      (repeat apply Exists.intro)
      exact ⟨rfl, HSj.out.hk⟩
end Go.Proofs.Ytieoejilppgebaa
