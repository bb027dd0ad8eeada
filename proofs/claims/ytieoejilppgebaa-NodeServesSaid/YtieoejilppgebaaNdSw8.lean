/- Ways of the switch of NodeServes. -/
import Derived.Test.YtieoejilppgebaaNdSw
namespace Go.Proofs.Ytieoejilppgebaa
open Go Go.RowKit Go.Maps
set_option maxRecDepth 1000000
set_option maxHeartbeats 40000000 in
theorem sw_8 {w V : World} {nb wb gb ob : Nat} {b : Nat → NB} {G : List EN} {W : Nat → Nat} {s : Nat → NS} {RD : List RR} {ra : Option Addr} {rc k kw : Nat} {who ii : Int} {key text : ByteArray} (hkw : kw < 2) (hks : key.size ≤ 1000) (hts' : text.size ≤ 1000) (hk150 : k ≤ 150) (hop : wOk ⟨8, who, ii, key, text⟩) (hDV : SV w V nb wb gb b G W W s RD (.slice ra RD.length rc) k) (hbV : V.heap[ob]? = some (.cells #[.int .i64 8, .int .i64 who, .int .i64 ii, .string key, .string text] 58)) (c0 c1 c2 c3 c4 c5 c6 c11 c12 c15 c16 c17 c18 c19 c20 c21 c22 c23 c24 c25 c26 c27 c28 c29 c30 c31 c32 c33 c34 c35 c36 c37 c38 c39 c40 c41 c42 c43 c44 c45 c46 c47 c48 c49 c50 c51 c52 c53 c54 c55 c56 c57 c58 c59 c60 c61 c62 c63 c64 c65 c66 c67 c68 c69 c70 c71 c72 c73 c74 c75 c76 c77 c78 c79 c80 c81 c82 c83 c84 c85 c86 c87 c88 c89 c90 c91 c92 c93 c94 c95 c96 c97 c99 c100 c101 c102 c103 c104 c105 c106 c107 c108 c109 c110 c111 c112 c113 c114 c115 c116 c117 c118 c119 c120 c121 c122 c123 c124 c125 c126 c127 c128 c129 c130 c131 c132 c133 c134 c135 c136 c137 c138 c139 c140 c141 c142 c143 c144 c145 c146 c147 c148 c149 c150 c151 c152 c153 c154 c155 c156 c157 c158 c159 c160 c161 c162 c163 c164 c165 c166 c167 c168 c169 c170 c171 c172 c173 c174 c175 c176 c177 c178 c179 c180 c181 c182 c183 c184 c185 c186 c187 c188 c189 c190 c191 c192 c193 c194 c195 c196 c197 c198 c199 c200 c201 c202 c203 c204 c205 c206 c207 c208 c209 c210 c211 c212 c213 c214 c215 c216 c217 c218 c219 c220 c221 c222 c223 c224 c225 c226 c227 c228 c229 c230 c231 c232 c233 c234 c235 c236 c237 c238 c239 c240 c241 c242 c243 c244 c245 c246 c247 c248 c249 c250 c251 c252 c253 c254 c255 c256 c257 c258 c259 c260 c261 c262 c263 c264 c265 c266 c267 c268 c269 c270 c271 c272 c273 c274 c275 c276 c277 c278 c279 c280 c281 c282 c283 c284 c285 c286 c287 c288 c289 c290 c291 c292 c293 c294 c295 c296 c297 c298 c299 c300 c301 c302 c303 c304 c305 c306 c307 c308 c309 c310 c311 c312 c313 c314 c315 c316 c317 c318 c319 c320 c321 c322 c323 c324 c325 c326 c327 c328 c329 c330 c331 c332 c333 c334 c335 c336 c337 c338 c339 c340 c341 c342 c343 : Value) :
    Code.wp Try.prog sw (SwPost w nb wb gb ob b k kw c0 c1 c2 c3 c4 c5 c6 c11 c12 c20 c21 c22 c23 c24 c25 c26 c27 c28 c29 c30 c31 c32 c33 c34 c35 c36 c37 c38 c39 c40 c41 c42 c43 c44 c45 c46 c47 c48 c49 c50 c51 c52 c53 c54 c55 c56 c57 c58 c59 c60 c61 c62 c63 c64 c65 c66 c67 c68 c69 c70 c71 c72 c73 c74 c75 c76 c77 c78 c79 c80 c81 c82 c83 c84 c85 c86 c87 c88 c89 c90 c91 c92 c93 c94 c95 c96 c97 c301 c302 c303 c304 c305 c306 c307 c308 c309 c310 c311 c312 c313 c314 c315 c316 c317 c318 c319 c320 c321 c322 c323 c324 c325 c326 c327 c328 c329 c330 c331 c332 c333 c334 c335 c336 c337 c338 c339 c340 c341 c342 c343 (.int .i64 8)) ⟨#[c0, c1, c2, c3, c4, c5, c6, .pointer (some ⟨nb, 0, none⟩), .pointer (some ⟨gb, 0, none⟩), .pointer (some ⟨wb, 0, none⟩), .slice ra RD.length rc, c11, c12, .pointer (some ⟨ob, 0, none⟩), .int .i64 (kw : Int), c15, c16, c17, c18, c19, c20, c21, c22, c23, c24, c25, c26, c27, c28, c29, c30, c31, c32, c33, c34, c35, c36, c37, c38, c39, c40, c41, c42, c43, c44, c45, c46, c47, c48, c49, c50, c51, c52, c53, c54, c55, c56, c57, c58, c59, c60, c61, c62, c63, c64, c65, c66, c67, c68, c69, c70, c71, c72, c73, c74, c75, c76, c77, c78, c79, c80, c81, c82, c83, c84, c85, c86, c87, c88, c89, c90, c91, c92, c93, c94, c95, c96, c97, .int .i64 8, c99, c100, c101, c102, c103, c104, c105, c106, c107, c108, c109, c110, c111, c112, c113, c114, c115, c116, c117, c118, c119, c120, c121, c122, c123, c124, c125, c126, c127, c128, c129, c130, c131, c132, c133, c134, c135, c136, c137, c138, c139, c140, c141, c142, c143, c144, c145, c146, c147, c148, c149, c150, c151, c152, c153, c154, c155, c156, c157, c158, c159, c160, c161, c162, c163, c164, c165, c166, c167, c168, c169, c170, c171, c172, c173, c174, c175, c176, c177, c178, c179, c180, c181, c182, c183, c184, c185, c186, c187, c188, c189, c190, c191, c192, c193, c194, c195, c196, c197, c198, c199, c200, c201, c202, c203, c204, c205, c206, c207, c208, c209, c210, c211, c212, c213, c214, c215, c216, c217, c218, c219, c220, c221, c222, c223, c224, c225, c226, c227, c228, c229, c230, c231, c232, c233, c234, c235, c236, c237, c238, c239, c240, c241, c242, c243, c244, c245, c246, c247, c248, c249, c250, c251, c252, c253, c254, c255, c256, c257, c258, c259, c260, c261, c262, c263, c264, c265, c266, c267, c268, c269, c270, c271, c272, c273, c274, c275, c276, c277, c278, c279, c280, c281, c282, c283, c284, c285, c286, c287, c288, c289, c290, c291, c292, c293, c294, c295, c296, c297, c298, c299, c300, c301, c302, c303, c304, c305, c306, c307, c308, c309, c310, c311, c312, c313, c314, c315, c316, c317, c318, c319, c320, c321, c322, c323, c324, c325, c326, c327, c328, c329, c330, c331, c332, c333, c334, c335, c336, c337, c338, c339, c340, c341, c342, c343], []⟩ V := by
  have HDV := Lib.hid hDV
  have HbV := Lib.hid hbV
  have Hop := Lib.hid hop
  clear hDV hbV hop
  conv => arg 2; whnf
  have hk2 : (kw : Int) < 2 := by omega
  have hk3 : (0 : Int) ≤ (kw : Int) := by omega
  have hk4 : ¬ (kw : Int) < 0 := by omega
  have hk5 : ((kw : Int)).toNat = kw := by omega
  have nk := node_cell HDV.out hkw
  have nl := blk_lt HDV.out.nodes
  have o3 := blk_cell HbV.out 3
  have ol := blk_lt HbV.out
  simp at o3
  go_wp2_with fail
  refine wp_region_pl (fun u => u.cell? ⟨nb, kw, none⟩ = some (.pointer (some ⟨(b kw).nb, 0, none⟩)) ∧ u.cell? ⟨ob, 3, none⟩ = some (.string key)) [] (.rd 0 (.rd 1 (.rd 2 (.rd 3 (.rd 4 (.one 5 .done)))))) (by kernel_rfl) (by kernel_rfl) (by kernel_rfl) (by kernel_rfl) (by intro c b d v u h; first | (cases d <;> exact h) | exact Exit.noConfusion (And.left h : Exit.panic c = Exit.normal)) ?_
  have kd0 : Keep NoB V V.drew := (Keep.refl NoB V).drew
  have HD1 := Lib.hid (HDV.out.keep0 kd0)
  have b1 := blk_keep HbV.out kd0 (fun h => h)
  generalize V.drew = V1 at HD1 b1 ⊢
  have o3' := blk_cell b1 3
  simp at o3'
  have HS1 := Lib.hid (show V1.cell? ⟨nb, kw, none⟩ = some (.pointer (some ⟨(b kw).nb, 0, none⟩)) ∧ V1.cell? ⟨ob, 3, none⟩ = some (.string key) from ⟨node_cell HD1.out hkw, o3'⟩)
  clear kd0 nk nl o3 ol o3'
  first
    | refine pl_get (i := 0) rfl rfl HS1.out rfl (fun u hu => by (try dsimp only at hu); go_simp; rfl) (by simp only [List.setIfInBounds_toArray, List.set_cons_succ, List.set_cons_zero]; rfl) ?_
    | refine pl_skip (i := 0) rfl rfl HS1.out rfl (by simp only [List.setIfInBounds_toArray, List.set_cons_succ, List.set_cons_zero]; rfl) ?_
  first
    | refine pl_get (i := 1) rfl rfl HS1.out rfl (fun u hu => by (try dsimp only at hu); go_simp; rfl) (by simp only [List.setIfInBounds_toArray, List.set_cons_succ, List.set_cons_zero]; rfl) ?_
    | refine pl_skip (i := 1) rfl rfl HS1.out rfl (by simp only [List.setIfInBounds_toArray, List.set_cons_succ, List.set_cons_zero]; rfl) ?_
  first
    | refine pl_get (i := 2) rfl rfl HS1.out rfl (fun u hu => by (try dsimp only at hu); go_simp; rfl) (by simp only [List.setIfInBounds_toArray, List.set_cons_succ, List.set_cons_zero]; rfl) ?_
    | refine pl_skip (i := 2) rfl rfl HS1.out rfl (by simp only [List.setIfInBounds_toArray, List.set_cons_succ, List.set_cons_zero]; rfl) ?_
  first
    | refine pl_get (i := 3) rfl rfl HS1.out rfl (fun u hu => by (try dsimp only at hu); go_simp; rfl) (by simp only [List.setIfInBounds_toArray, List.set_cons_succ, List.set_cons_zero]; rfl) ?_
    | refine pl_skip (i := 3) rfl rfl HS1.out rfl (by simp only [List.setIfInBounds_toArray, List.set_cons_succ, List.set_cons_zero]; rfl) ?_
  first
    | refine pl_get (i := 4) rfl rfl HS1.out rfl (fun u hu => by (try dsimp only at hu); go_simp; rfl) (by simp only [List.setIfInBounds_toArray, List.set_cons_succ, List.set_cons_zero]; rfl) ?_
    | refine pl_skip (i := 4) rfl rfl HS1.out rfl (by simp only [List.setIfInBounds_toArray, List.set_cons_succ, List.set_cons_zero]; rfl) ?_
  refine pl_one (i := 5) rfl ?_
  go_wp2_with ((go_at_call 10; refine (mark_any _ (b kw) (s kw) (HD1.out.nl kw hkw).D (HD1.out.nn kw hkw).nd (HD1.out.nn kw hkw).mlen key 1 1 ⟨Hop.out.2.2.2.1, show (Lit.int .i64 1).wf = true by decide, show (Lit.int .i64 1).wf = true by decide⟩ (by omega) (by have := (HD1.out.nn kw hkw).nlen; omega)).mono ?_; rintro _ w5 ⟨s5, r5, hR, rfl, P5⟩))
  have b5 := P5.blk b1 (HD1.out.nl kw hkw).D (by decide) (by decide) (by decide) (by decide) (by decide) (by decide)
  have o5 := blk_cell b5 3
  simp at o5
  obtain ⟨q1, q2, q3, q4⟩ := sv_mark (HD1.out.nn kw hkw) hR
  have HS5 := Lib.hid ((HD1.out.op4 hkw P5 q1 (Nat.le_refl k) q2 (fun r hr => hr.same q3 q4)).le (Nat.le_succ k))
  have HSS := Lib.hid (show w5.cell? ⟨nb, kw, none⟩ = some (.pointer (some ⟨(b kw).nb, 0, none⟩)) ∧ w5.cell? ⟨ob, 3, none⟩ = some (.string key) from ⟨node_cell HS5.out hkw, o5⟩)
  clear P5 hR q1 q2 q3 q4 b5 b1 o5
  refine pl_next (fun _ => HSS.out) ?_
  refine pl_done ?_
  go_wp2_with fail
  (try simp only [Exit.inBlock, Exit.then])
  unfold SwPost
  refine ⟨rfl, ?_⟩
  (repeat apply Exists.intro)
  exact ⟨rfl, HS5.out⟩
set_option maxHeartbeats 40000000 in
theorem sw_9 {w V : World} {nb wb gb ob : Nat} {b : Nat → NB} {G : List EN} {W : Nat → Nat} {s : Nat → NS} {RD : List RR} {ra : Option Addr} {rc k kw : Nat} {who ii : Int} {key text : ByteArray} (hkw : kw < 2) (hks : key.size ≤ 1000) (hts' : text.size ≤ 1000) (hk150 : k ≤ 150) (hop : wOk ⟨9, who, ii, key, text⟩) (hDV : SV w V nb wb gb b G W W s RD (.slice ra RD.length rc) k) (hbV : V.heap[ob]? = some (.cells #[.int .i64 9, .int .i64 who, .int .i64 ii, .string key, .string text] 58)) (c0 c1 c2 c3 c4 c5 c6 c11 c12 c15 c16 c17 c18 c19 c20 c21 c22 c23 c24 c25 c26 c27 c28 c29 c30 c31 c32 c33 c34 c35 c36 c37 c38 c39 c40 c41 c42 c43 c44 c45 c46 c47 c48 c49 c50 c51 c52 c53 c54 c55 c56 c57 c58 c59 c60 c61 c62 c63 c64 c65 c66 c67 c68 c69 c70 c71 c72 c73 c74 c75 c76 c77 c78 c79 c80 c81 c82 c83 c84 c85 c86 c87 c88 c89 c90 c91 c92 c93 c94 c95 c96 c97 c99 c100 c101 c102 c103 c104 c105 c106 c107 c108 c109 c110 c111 c112 c113 c114 c115 c116 c117 c118 c119 c120 c121 c122 c123 c124 c125 c126 c127 c128 c129 c130 c131 c132 c133 c134 c135 c136 c137 c138 c139 c140 c141 c142 c143 c144 c145 c146 c147 c148 c149 c150 c151 c152 c153 c154 c155 c156 c157 c158 c159 c160 c161 c162 c163 c164 c165 c166 c167 c168 c169 c170 c171 c172 c173 c174 c175 c176 c177 c178 c179 c180 c181 c182 c183 c184 c185 c186 c187 c188 c189 c190 c191 c192 c193 c194 c195 c196 c197 c198 c199 c200 c201 c202 c203 c204 c205 c206 c207 c208 c209 c210 c211 c212 c213 c214 c215 c216 c217 c218 c219 c220 c221 c222 c223 c224 c225 c226 c227 c228 c229 c230 c231 c232 c233 c234 c235 c236 c237 c238 c239 c240 c241 c242 c243 c244 c245 c246 c247 c248 c249 c250 c251 c252 c253 c254 c255 c256 c257 c258 c259 c260 c261 c262 c263 c264 c265 c266 c267 c268 c269 c270 c271 c272 c273 c274 c275 c276 c277 c278 c279 c280 c281 c282 c283 c284 c285 c286 c287 c288 c289 c290 c291 c292 c293 c294 c295 c296 c297 c298 c299 c300 c301 c302 c303 c304 c305 c306 c307 c308 c309 c310 c311 c312 c313 c314 c315 c316 c317 c318 c319 c320 c321 c322 c323 c324 c325 c326 c327 c328 c329 c330 c331 c332 c333 c334 c335 c336 c337 c338 c339 c340 c341 c342 c343 : Value) :
    Code.wp Try.prog sw (SwPost w nb wb gb ob b k kw c0 c1 c2 c3 c4 c5 c6 c11 c12 c20 c21 c22 c23 c24 c25 c26 c27 c28 c29 c30 c31 c32 c33 c34 c35 c36 c37 c38 c39 c40 c41 c42 c43 c44 c45 c46 c47 c48 c49 c50 c51 c52 c53 c54 c55 c56 c57 c58 c59 c60 c61 c62 c63 c64 c65 c66 c67 c68 c69 c70 c71 c72 c73 c74 c75 c76 c77 c78 c79 c80 c81 c82 c83 c84 c85 c86 c87 c88 c89 c90 c91 c92 c93 c94 c95 c96 c97 c301 c302 c303 c304 c305 c306 c307 c308 c309 c310 c311 c312 c313 c314 c315 c316 c317 c318 c319 c320 c321 c322 c323 c324 c325 c326 c327 c328 c329 c330 c331 c332 c333 c334 c335 c336 c337 c338 c339 c340 c341 c342 c343 (.int .i64 9)) ⟨#[c0, c1, c2, c3, c4, c5, c6, .pointer (some ⟨nb, 0, none⟩), .pointer (some ⟨gb, 0, none⟩), .pointer (some ⟨wb, 0, none⟩), .slice ra RD.length rc, c11, c12, .pointer (some ⟨ob, 0, none⟩), .int .i64 (kw : Int), c15, c16, c17, c18, c19, c20, c21, c22, c23, c24, c25, c26, c27, c28, c29, c30, c31, c32, c33, c34, c35, c36, c37, c38, c39, c40, c41, c42, c43, c44, c45, c46, c47, c48, c49, c50, c51, c52, c53, c54, c55, c56, c57, c58, c59, c60, c61, c62, c63, c64, c65, c66, c67, c68, c69, c70, c71, c72, c73, c74, c75, c76, c77, c78, c79, c80, c81, c82, c83, c84, c85, c86, c87, c88, c89, c90, c91, c92, c93, c94, c95, c96, c97, .int .i64 9, c99, c100, c101, c102, c103, c104, c105, c106, c107, c108, c109, c110, c111, c112, c113, c114, c115, c116, c117, c118, c119, c120, c121, c122, c123, c124, c125, c126, c127, c128, c129, c130, c131, c132, c133, c134, c135, c136, c137, c138, c139, c140, c141, c142, c143, c144, c145, c146, c147, c148, c149, c150, c151, c152, c153, c154, c155, c156, c157, c158, c159, c160, c161, c162, c163, c164, c165, c166, c167, c168, c169, c170, c171, c172, c173, c174, c175, c176, c177, c178, c179, c180, c181, c182, c183, c184, c185, c186, c187, c188, c189, c190, c191, c192, c193, c194, c195, c196, c197, c198, c199, c200, c201, c202, c203, c204, c205, c206, c207, c208, c209, c210, c211, c212, c213, c214, c215, c216, c217, c218, c219, c220, c221, c222, c223, c224, c225, c226, c227, c228, c229, c230, c231, c232, c233, c234, c235, c236, c237, c238, c239, c240, c241, c242, c243, c244, c245, c246, c247, c248, c249, c250, c251, c252, c253, c254, c255, c256, c257, c258, c259, c260, c261, c262, c263, c264, c265, c266, c267, c268, c269, c270, c271, c272, c273, c274, c275, c276, c277, c278, c279, c280, c281, c282, c283, c284, c285, c286, c287, c288, c289, c290, c291, c292, c293, c294, c295, c296, c297, c298, c299, c300, c301, c302, c303, c304, c305, c306, c307, c308, c309, c310, c311, c312, c313, c314, c315, c316, c317, c318, c319, c320, c321, c322, c323, c324, c325, c326, c327, c328, c329, c330, c331, c332, c333, c334, c335, c336, c337, c338, c339, c340, c341, c342, c343], []⟩ V := by
  have HDV := Lib.hid hDV
  have HbV := Lib.hid hbV
  have Hop := Lib.hid hop
  clear hDV hbV hop
  conv => arg 2; whnf
  have hk2 : (kw : Int) < 2 := by omega
  have hk3 : (0 : Int) ≤ (kw : Int) := by omega
  have hk4 : ¬ (kw : Int) < 0 := by omega
  have hk5 : ((kw : Int)).toNat = kw := by omega
  have nk := node_cell HDV.out hkw
  have nl := blk_lt HDV.out.nodes
  have o3 := blk_cell HbV.out 3
  have ol := blk_lt HbV.out
  simp at o3
  go_wp2_with fail
  refine wp_region_pl (fun u => u.cell? ⟨nb, kw, none⟩ = some (.pointer (some ⟨(b kw).nb, 0, none⟩)) ∧ u.cell? ⟨ob, 3, none⟩ = some (.string key)) [] (.rd 0 (.rd 1 (.rd 2 (.rd 3 (.rd 4 (.one 5 .done)))))) (by kernel_rfl) (by kernel_rfl) (by kernel_rfl) (by kernel_rfl) (by intro c b d v u h; first | (cases d <;> exact h) | exact Exit.noConfusion (And.left h : Exit.panic c = Exit.normal)) ?_
  have kd0 : Keep NoB V V.drew := (Keep.refl NoB V).drew
  have HD1 := Lib.hid (HDV.out.keep0 kd0)
  have b1 := blk_keep HbV.out kd0 (fun h => h)
  generalize V.drew = V1 at HD1 b1 ⊢
  have o3' := blk_cell b1 3
  simp at o3'
  have HS1 := Lib.hid (show V1.cell? ⟨nb, kw, none⟩ = some (.pointer (some ⟨(b kw).nb, 0, none⟩)) ∧ V1.cell? ⟨ob, 3, none⟩ = some (.string key) from ⟨node_cell HD1.out hkw, o3'⟩)
  clear kd0 nk nl o3 ol o3'
  first
    | refine pl_get (i := 0) rfl rfl HS1.out rfl (fun u hu => by (try dsimp only at hu); go_simp; rfl) (by simp only [List.setIfInBounds_toArray, List.set_cons_succ, List.set_cons_zero]; rfl) ?_
    | refine pl_skip (i := 0) rfl rfl HS1.out rfl (by simp only [List.setIfInBounds_toArray, List.set_cons_succ, List.set_cons_zero]; rfl) ?_
  first
    | refine pl_get (i := 1) rfl rfl HS1.out rfl (fun u hu => by (try dsimp only at hu); go_simp; rfl) (by simp only [List.setIfInBounds_toArray, List.set_cons_succ, List.set_cons_zero]; rfl) ?_
    | refine pl_skip (i := 1) rfl rfl HS1.out rfl (by simp only [List.setIfInBounds_toArray, List.set_cons_succ, List.set_cons_zero]; rfl) ?_
  first
    | refine pl_get (i := 2) rfl rfl HS1.out rfl (fun u hu => by (try dsimp only at hu); go_simp; rfl) (by simp only [List.setIfInBounds_toArray, List.set_cons_succ, List.set_cons_zero]; rfl) ?_
    | refine pl_skip (i := 2) rfl rfl HS1.out rfl (by simp only [List.setIfInBounds_toArray, List.set_cons_succ, List.set_cons_zero]; rfl) ?_
  first
    | refine pl_get (i := 3) rfl rfl HS1.out rfl (fun u hu => by (try dsimp only at hu); go_simp; rfl) (by simp only [List.setIfInBounds_toArray, List.set_cons_succ, List.set_cons_zero]; rfl) ?_
    | refine pl_skip (i := 3) rfl rfl HS1.out rfl (by simp only [List.setIfInBounds_toArray, List.set_cons_succ, List.set_cons_zero]; rfl) ?_
  first
    | refine pl_get (i := 4) rfl rfl HS1.out rfl (fun u hu => by (try dsimp only at hu); go_simp; rfl) (by simp only [List.setIfInBounds_toArray, List.set_cons_succ, List.set_cons_zero]; rfl) ?_
    | refine pl_skip (i := 4) rfl rfl HS1.out rfl (by simp only [List.setIfInBounds_toArray, List.set_cons_succ, List.set_cons_zero]; rfl) ?_
  refine pl_one (i := 5) rfl ?_
  go_wp2_with ((go_at_call 11; refine (unmark_any _ (b kw) (s kw) (HD1.out.nl kw hkw).D (HD1.out.nn kw hkw).nd key 1 1 ⟨Hop.out.2.2.2.1, show (Lit.int .i64 1).wf = true by decide, show (Lit.int .i64 1).wf = true by decide⟩ (by omega)).mono ?_; rintro _ w5 ⟨s5, r5, hR, rfl, P5⟩))
  have b5 := P5.blk b1 (HD1.out.nl kw hkw).D (by decide) (by decide) (by decide) (by decide) (by decide) (by decide)
  have o5 := blk_cell b5 3
  simp at o5
  obtain ⟨q1, q2, q3, q4⟩ := sv_unmark (HD1.out.nn kw hkw) hR
  have HS5 := Lib.hid ((HD1.out.op4 hkw P5 q1 (Nat.le_refl k) q2 (fun r hr => hr.same q3 q4)).le (Nat.le_succ k))
  have HSS := Lib.hid (show w5.cell? ⟨nb, kw, none⟩ = some (.pointer (some ⟨(b kw).nb, 0, none⟩)) ∧ w5.cell? ⟨ob, 3, none⟩ = some (.string key) from ⟨node_cell HS5.out hkw, o5⟩)
  clear P5 hR q1 q2 q3 q4 b5 b1 o5
  refine pl_next (fun _ => HSS.out) ?_
  refine pl_done ?_
  go_wp2_with fail
  (try simp only [Exit.inBlock, Exit.then])
  unfold SwPost
  refine ⟨rfl, ?_⟩
  (repeat apply Exists.intro)
  exact ⟨rfl, HS5.out⟩
end Go.Proofs.Ytieoejilppgebaa
