/- Ways of the switch of NodeServes. -/
import Derived.Test.YtieoejilppgebaaNdSw
namespace Go.Proofs.Ytieoejilppgebaa
open Go Go.RowKit Go.Maps
set_option maxRecDepth 1000000
set_option maxHeartbeats 40000000 in
theorem sw_5 {w V : World} {nb wb gb ob : Nat} {b : Nat → NB} {G : List EN} {W : Nat → Nat} {s : Nat → NS} {RD : List RR} {ra : Option Addr} {rc k kw : Nat} {who ii : Int} {key text : ByteArray} (hkw : kw < 2) (hks : key.size ≤ 1000) (hts' : text.size ≤ 1000) (hk150 : k ≤ 150) (hop : wOk ⟨5, who, ii, key, text⟩) (hDV : SV w V nb wb gb b G W W s RD (.slice ra RD.length rc) k) (hbV : V.heap[ob]? = some (.cells #[.int .i64 5, .int .i64 who, .int .i64 ii, .string key, .string text] 58)) (c0 c1 c2 c3 c4 c5 c6 c11 c12 c15 c16 c17 c18 c19 c20 c21 c22 c23 c24 c25 c26 c27 c28 c29 c30 c31 c32 c33 c34 c35 c36 c37 c38 c39 c40 c41 c42 c43 c44 c45 c46 c47 c48 c49 c50 c51 c52 c53 c54 c55 c56 c57 c58 c59 c60 c61 c62 c63 c64 c65 c66 c67 c68 c69 c70 c71 c72 c73 c74 c75 c76 c77 c78 c79 c80 c81 c82 c83 c84 c85 c86 c87 c88 c89 c90 c91 c92 c93 c94 c95 c96 c97 c99 c100 c101 c102 c103 c104 c105 c106 c107 c108 c109 c110 c111 c112 c113 c114 c115 c116 c117 c118 c119 c120 c121 c122 c123 c124 c125 c126 c127 c128 c129 c130 c131 c132 c133 c134 c135 c136 c137 c138 c139 c140 c141 c142 c143 c144 c145 c146 c147 c148 c149 c150 c151 c152 c153 c154 c155 c156 c157 c158 c159 c160 c161 c162 c163 c164 c165 c166 c167 c168 c169 c170 c171 c172 c173 c174 c175 c176 c177 c178 c179 c180 c181 c182 c183 c184 c185 c186 c187 c188 c189 c190 c191 c192 c193 c194 c195 c196 c197 c198 c199 c200 c201 c202 c203 c204 c205 c206 c207 c208 c209 c210 c211 c212 c213 c214 c215 c216 c217 c218 c219 c220 c221 c222 c223 c224 c225 c226 c227 c228 c229 c230 c231 c232 c233 c234 c235 c236 c237 c238 c239 c240 c241 c242 c243 c244 c245 c246 c247 c248 c249 c250 c251 c252 c253 c254 c255 c256 c257 c258 c259 c260 c261 c262 c263 c264 c265 c266 c267 c268 c269 c270 c271 c272 c273 c274 c275 c276 c277 c278 c279 c280 c281 c282 c283 c284 c285 c286 c287 c288 c289 c290 c291 c292 c293 c294 c295 c296 c297 c298 c299 c300 c301 c302 c303 c304 c305 c306 c307 c308 c309 c310 c311 c312 c313 c314 c315 c316 c317 c318 c319 c320 c321 c322 c323 c324 c325 c326 c327 c328 c329 c330 c331 c332 c333 c334 c335 c336 c337 c338 c339 c340 c341 c342 c343 : Value) :
    Code.wp Try.prog sw (SwPost w nb wb gb ob b k kw c0 c1 c2 c3 c4 c5 c6 c11 c12 c20 c21 c22 c23 c24 c25 c26 c27 c28 c29 c30 c31 c32 c33 c34 c35 c36 c37 c38 c39 c40 c41 c42 c43 c44 c45 c46 c47 c48 c49 c50 c51 c52 c53 c54 c55 c56 c57 c58 c59 c60 c61 c62 c63 c64 c65 c66 c67 c68 c69 c70 c71 c72 c73 c74 c75 c76 c77 c78 c79 c80 c81 c82 c83 c84 c85 c86 c87 c88 c89 c90 c91 c92 c93 c94 c95 c96 c97 c301 c302 c303 c304 c305 c306 c307 c308 c309 c310 c311 c312 c313 c314 c315 c316 c317 c318 c319 c320 c321 c322 c323 c324 c325 c326 c327 c328 c329 c330 c331 c332 c333 c334 c335 c336 c337 c338 c339 c340 c341 c342 c343 (.int .i64 5)) ⟨#[c0, c1, c2, c3, c4, c5, c6, .pointer (some ⟨nb, 0, none⟩), .pointer (some ⟨gb, 0, none⟩), .pointer (some ⟨wb, 0, none⟩), .slice ra RD.length rc, c11, c12, .pointer (some ⟨ob, 0, none⟩), .int .i64 (kw : Int), c15, c16, c17, c18, c19, c20, c21, c22, c23, c24, c25, c26, c27, c28, c29, c30, c31, c32, c33, c34, c35, c36, c37, c38, c39, c40, c41, c42, c43, c44, c45, c46, c47, c48, c49, c50, c51, c52, c53, c54, c55, c56, c57, c58, c59, c60, c61, c62, c63, c64, c65, c66, c67, c68, c69, c70, c71, c72, c73, c74, c75, c76, c77, c78, c79, c80, c81, c82, c83, c84, c85, c86, c87, c88, c89, c90, c91, c92, c93, c94, c95, c96, c97, .int .i64 5, c99, c100, c101, c102, c103, c104, c105, c106, c107, c108, c109, c110, c111, c112, c113, c114, c115, c116, c117, c118, c119, c120, c121, c122, c123, c124, c125, c126, c127, c128, c129, c130, c131, c132, c133, c134, c135, c136, c137, c138, c139, c140, c141, c142, c143, c144, c145, c146, c147, c148, c149, c150, c151, c152, c153, c154, c155, c156, c157, c158, c159, c160, c161, c162, c163, c164, c165, c166, c167, c168, c169, c170, c171, c172, c173, c174, c175, c176, c177, c178, c179, c180, c181, c182, c183, c184, c185, c186, c187, c188, c189, c190, c191, c192, c193, c194, c195, c196, c197, c198, c199, c200, c201, c202, c203, c204, c205, c206, c207, c208, c209, c210, c211, c212, c213, c214, c215, c216, c217, c218, c219, c220, c221, c222, c223, c224, c225, c226, c227, c228, c229, c230, c231, c232, c233, c234, c235, c236, c237, c238, c239, c240, c241, c242, c243, c244, c245, c246, c247, c248, c249, c250, c251, c252, c253, c254, c255, c256, c257, c258, c259, c260, c261, c262, c263, c264, c265, c266, c267, c268, c269, c270, c271, c272, c273, c274, c275, c276, c277, c278, c279, c280, c281, c282, c283, c284, c285, c286, c287, c288, c289, c290, c291, c292, c293, c294, c295, c296, c297, c298, c299, c300, c301, c302, c303, c304, c305, c306, c307, c308, c309, c310, c311, c312, c313, c314, c315, c316, c317, c318, c319, c320, c321, c322, c323, c324, c325, c326, c327, c328, c329, c330, c331, c332, c333, c334, c335, c336, c337, c338, c339, c340, c341, c342, c343], []⟩ V := by
  have HDV := Lib.hid hDV
  have HbV := Lib.hid hbV
  have Hop := Lib.hid hop
  clear hDV hbV hop
  conv => arg 2; whnf
  have nk := node_cell HDV.out (i := 1) (by decide)
  have nl := blk_lt HDV.out.nodes
  have p0 := place_cell HDV.out (i := 0) (by decide)
  have pl := blk_lt HDV.out.ws
  obtain ⟨fl', hfl⟩ : ∃ q, (((s 1).fl ≤ (W 0 : Int) ∧ q = 0) ∨ ((W 0 : Int) < (s 1).fl ∧ q = (s 1).fl)) := by
    by_cases h : (s 1).fl ≤ (W 0 : Int)
    · exact ⟨0, Or.inl ⟨h, rfl⟩⟩
    · exact ⟨_, Or.inr ⟨by omega, rfl⟩⟩
  have Hfl := Lib.hid hfl
  clear hfl
  go_wp2_with fail
  refine (pass_any _ (b 1) (s 1) (HDV.out.nl 1 (by decide)).D (by have := (HDV.out.nn 1 (by decide)).hlen; unfold maxLen; omega) (W 0 : Int) fl' Hfl.out).mono ?_
  rintro _ w5 ⟨rfl, P5⟩
  obtain ⟨q1, q2, q3⟩ := sv_pass (HDV.out.nn 1 (by decide)) HDV.out.co ((HDV.out.nl 1 (by decide)).D.hd.map.apart Hd.law9) Hfl.out
  have HS5 := Lib.hid ((HDV.out.op (i := 1) (by decide) P5 q1 (Nat.le_refl k) q2 (fun _ => q3) (fun e => by cases e)).le (Nat.le_succ k))
  clear P5 q1 q2 q3 nk nl p0 pl
  go_wp2_with fail
  (try simp only [Exit.inBlock, Exit.then])
  unfold SwPost
  refine ⟨rfl, ?_⟩
  (repeat apply Exists.intro)
  exact ⟨rfl, HS5.out⟩
set_option maxHeartbeats 40000000 in
theorem sw_6 {w V : World} {nb wb gb ob : Nat} {b : Nat → NB} {G : List EN} {W : Nat → Nat} {s : Nat → NS} {RD : List RR} {ra : Option Addr} {rc k kw : Nat} {who ii : Int} {key text : ByteArray} (hkw : kw < 2) (hks : key.size ≤ 1000) (hts' : text.size ≤ 1000) (hk150 : k ≤ 150) (hop : wOk ⟨6, who, ii, key, text⟩) (hDV : SV w V nb wb gb b G W W s RD (.slice ra RD.length rc) k) (hbV : V.heap[ob]? = some (.cells #[.int .i64 6, .int .i64 who, .int .i64 ii, .string key, .string text] 58)) (c0 c1 c2 c3 c4 c5 c6 c11 c12 c15 c16 c17 c18 c19 c20 c21 c22 c23 c24 c25 c26 c27 c28 c29 c30 c31 c32 c33 c34 c35 c36 c37 c38 c39 c40 c41 c42 c43 c44 c45 c46 c47 c48 c49 c50 c51 c52 c53 c54 c55 c56 c57 c58 c59 c60 c61 c62 c63 c64 c65 c66 c67 c68 c69 c70 c71 c72 c73 c74 c75 c76 c77 c78 c79 c80 c81 c82 c83 c84 c85 c86 c87 c88 c89 c90 c91 c92 c93 c94 c95 c96 c97 c99 c100 c101 c102 c103 c104 c105 c106 c107 c108 c109 c110 c111 c112 c113 c114 c115 c116 c117 c118 c119 c120 c121 c122 c123 c124 c125 c126 c127 c128 c129 c130 c131 c132 c133 c134 c135 c136 c137 c138 c139 c140 c141 c142 c143 c144 c145 c146 c147 c148 c149 c150 c151 c152 c153 c154 c155 c156 c157 c158 c159 c160 c161 c162 c163 c164 c165 c166 c167 c168 c169 c170 c171 c172 c173 c174 c175 c176 c177 c178 c179 c180 c181 c182 c183 c184 c185 c186 c187 c188 c189 c190 c191 c192 c193 c194 c195 c196 c197 c198 c199 c200 c201 c202 c203 c204 c205 c206 c207 c208 c209 c210 c211 c212 c213 c214 c215 c216 c217 c218 c219 c220 c221 c222 c223 c224 c225 c226 c227 c228 c229 c230 c231 c232 c233 c234 c235 c236 c237 c238 c239 c240 c241 c242 c243 c244 c245 c246 c247 c248 c249 c250 c251 c252 c253 c254 c255 c256 c257 c258 c259 c260 c261 c262 c263 c264 c265 c266 c267 c268 c269 c270 c271 c272 c273 c274 c275 c276 c277 c278 c279 c280 c281 c282 c283 c284 c285 c286 c287 c288 c289 c290 c291 c292 c293 c294 c295 c296 c297 c298 c299 c300 c301 c302 c303 c304 c305 c306 c307 c308 c309 c310 c311 c312 c313 c314 c315 c316 c317 c318 c319 c320 c321 c322 c323 c324 c325 c326 c327 c328 c329 c330 c331 c332 c333 c334 c335 c336 c337 c338 c339 c340 c341 c342 c343 : Value) :
    Code.wp Try.prog sw (SwPost w nb wb gb ob b k kw c0 c1 c2 c3 c4 c5 c6 c11 c12 c20 c21 c22 c23 c24 c25 c26 c27 c28 c29 c30 c31 c32 c33 c34 c35 c36 c37 c38 c39 c40 c41 c42 c43 c44 c45 c46 c47 c48 c49 c50 c51 c52 c53 c54 c55 c56 c57 c58 c59 c60 c61 c62 c63 c64 c65 c66 c67 c68 c69 c70 c71 c72 c73 c74 c75 c76 c77 c78 c79 c80 c81 c82 c83 c84 c85 c86 c87 c88 c89 c90 c91 c92 c93 c94 c95 c96 c97 c301 c302 c303 c304 c305 c306 c307 c308 c309 c310 c311 c312 c313 c314 c315 c316 c317 c318 c319 c320 c321 c322 c323 c324 c325 c326 c327 c328 c329 c330 c331 c332 c333 c334 c335 c336 c337 c338 c339 c340 c341 c342 c343 (.int .i64 6)) ⟨#[c0, c1, c2, c3, c4, c5, c6, .pointer (some ⟨nb, 0, none⟩), .pointer (some ⟨gb, 0, none⟩), .pointer (some ⟨wb, 0, none⟩), .slice ra RD.length rc, c11, c12, .pointer (some ⟨ob, 0, none⟩), .int .i64 (kw : Int), c15, c16, c17, c18, c19, c20, c21, c22, c23, c24, c25, c26, c27, c28, c29, c30, c31, c32, c33, c34, c35, c36, c37, c38, c39, c40, c41, c42, c43, c44, c45, c46, c47, c48, c49, c50, c51, c52, c53, c54, c55, c56, c57, c58, c59, c60, c61, c62, c63, c64, c65, c66, c67, c68, c69, c70, c71, c72, c73, c74, c75, c76, c77, c78, c79, c80, c81, c82, c83, c84, c85, c86, c87, c88, c89, c90, c91, c92, c93, c94, c95, c96, c97, .int .i64 6, c99, c100, c101, c102, c103, c104, c105, c106, c107, c108, c109, c110, c111, c112, c113, c114, c115, c116, c117, c118, c119, c120, c121, c122, c123, c124, c125, c126, c127, c128, c129, c130, c131, c132, c133, c134, c135, c136, c137, c138, c139, c140, c141, c142, c143, c144, c145, c146, c147, c148, c149, c150, c151, c152, c153, c154, c155, c156, c157, c158, c159, c160, c161, c162, c163, c164, c165, c166, c167, c168, c169, c170, c171, c172, c173, c174, c175, c176, c177, c178, c179, c180, c181, c182, c183, c184, c185, c186, c187, c188, c189, c190, c191, c192, c193, c194, c195, c196, c197, c198, c199, c200, c201, c202, c203, c204, c205, c206, c207, c208, c209, c210, c211, c212, c213, c214, c215, c216, c217, c218, c219, c220, c221, c222, c223, c224, c225, c226, c227, c228, c229, c230, c231, c232, c233, c234, c235, c236, c237, c238, c239, c240, c241, c242, c243, c244, c245, c246, c247, c248, c249, c250, c251, c252, c253, c254, c255, c256, c257, c258, c259, c260, c261, c262, c263, c264, c265, c266, c267, c268, c269, c270, c271, c272, c273, c274, c275, c276, c277, c278, c279, c280, c281, c282, c283, c284, c285, c286, c287, c288, c289, c290, c291, c292, c293, c294, c295, c296, c297, c298, c299, c300, c301, c302, c303, c304, c305, c306, c307, c308, c309, c310, c311, c312, c313, c314, c315, c316, c317, c318, c319, c320, c321, c322, c323, c324, c325, c326, c327, c328, c329, c330, c331, c332, c333, c334, c335, c336, c337, c338, c339, c340, c341, c342, c343], []⟩ V := by
  have HDV := Lib.hid hDV
  have HbV := Lib.hid hbV
  have Hop := Lib.hid hop
  clear hDV hbV hop
  conv => arg 2; whnf
  have nk := node_cell HDV.out hkw
  have nl := blk_lt HDV.out.nodes
  go_wp2_with fail
  refine (tick_any _ (b kw) (s kw) (HDV.out.nl kw hkw).D (by have := (HDV.out.nn kw hkw).llen; unfold maxLen; omega) (fun p hp => by have := (HDV.out.nn kw hkw).tick p hp; omega)).mono ?_
  rintro _ w5 ⟨rfl, P5⟩
  obtain ⟨q1, q2⟩ := sv_tick (HDV.out.nn kw hkw) ((HDV.out.nl kw hkw).D.ls.map.apart Ls.law9)
  have HS5 := Lib.hid ((HDV.out.op4 hkw P5 q1 (Nat.le_refl k) ⟨rfl, rfl, rfl, rfl⟩ q2).le (Nat.le_succ k))
  clear P5 q1 q2 nk nl
  go_wp2_with fail
  (try simp only [Exit.inBlock, Exit.then])
  unfold SwPost
  refine ⟨rfl, ?_⟩
  (repeat apply Exists.intro)
  exact ⟨rfl, HS5.out⟩
set_option maxHeartbeats 40000000 in
theorem sw_7 {w V : World} {nb wb gb ob : Nat} {b : Nat → NB} {G : List EN} {W : Nat → Nat} {s : Nat → NS} {RD : List RR} {ra : Option Addr} {rc k kw : Nat} {who ii : Int} {key text : ByteArray} (hkw : kw < 2) (hks : key.size ≤ 1000) (hts' : text.size ≤ 1000) (hk150 : k ≤ 150) (hop : wOk ⟨7, who, ii, key, text⟩) (hDV : SV w V nb wb gb b G W W s RD (.slice ra RD.length rc) k) (hbV : V.heap[ob]? = some (.cells #[.int .i64 7, .int .i64 who, .int .i64 ii, .string key, .string text] 58)) (c0 c1 c2 c3 c4 c5 c6 c11 c12 c15 c16 c17 c18 c19 c20 c21 c22 c23 c24 c25 c26 c27 c28 c29 c30 c31 c32 c33 c34 c35 c36 c37 c38 c39 c40 c41 c42 c43 c44 c45 c46 c47 c48 c49 c50 c51 c52 c53 c54 c55 c56 c57 c58 c59 c60 c61 c62 c63 c64 c65 c66 c67 c68 c69 c70 c71 c72 c73 c74 c75 c76 c77 c78 c79 c80 c81 c82 c83 c84 c85 c86 c87 c88 c89 c90 c91 c92 c93 c94 c95 c96 c97 c99 c100 c101 c102 c103 c104 c105 c106 c107 c108 c109 c110 c111 c112 c113 c114 c115 c116 c117 c118 c119 c120 c121 c122 c123 c124 c125 c126 c127 c128 c129 c130 c131 c132 c133 c134 c135 c136 c137 c138 c139 c140 c141 c142 c143 c144 c145 c146 c147 c148 c149 c150 c151 c152 c153 c154 c155 c156 c157 c158 c159 c160 c161 c162 c163 c164 c165 c166 c167 c168 c169 c170 c171 c172 c173 c174 c175 c176 c177 c178 c179 c180 c181 c182 c183 c184 c185 c186 c187 c188 c189 c190 c191 c192 c193 c194 c195 c196 c197 c198 c199 c200 c201 c202 c203 c204 c205 c206 c207 c208 c209 c210 c211 c212 c213 c214 c215 c216 c217 c218 c219 c220 c221 c222 c223 c224 c225 c226 c227 c228 c229 c230 c231 c232 c233 c234 c235 c236 c237 c238 c239 c240 c241 c242 c243 c244 c245 c246 c247 c248 c249 c250 c251 c252 c253 c254 c255 c256 c257 c258 c259 c260 c261 c262 c263 c264 c265 c266 c267 c268 c269 c270 c271 c272 c273 c274 c275 c276 c277 c278 c279 c280 c281 c282 c283 c284 c285 c286 c287 c288 c289 c290 c291 c292 c293 c294 c295 c296 c297 c298 c299 c300 c301 c302 c303 c304 c305 c306 c307 c308 c309 c310 c311 c312 c313 c314 c315 c316 c317 c318 c319 c320 c321 c322 c323 c324 c325 c326 c327 c328 c329 c330 c331 c332 c333 c334 c335 c336 c337 c338 c339 c340 c341 c342 c343 : Value) :
    Code.wp Try.prog sw (SwPost w nb wb gb ob b k kw c0 c1 c2 c3 c4 c5 c6 c11 c12 c20 c21 c22 c23 c24 c25 c26 c27 c28 c29 c30 c31 c32 c33 c34 c35 c36 c37 c38 c39 c40 c41 c42 c43 c44 c45 c46 c47 c48 c49 c50 c51 c52 c53 c54 c55 c56 c57 c58 c59 c60 c61 c62 c63 c64 c65 c66 c67 c68 c69 c70 c71 c72 c73 c74 c75 c76 c77 c78 c79 c80 c81 c82 c83 c84 c85 c86 c87 c88 c89 c90 c91 c92 c93 c94 c95 c96 c97 c301 c302 c303 c304 c305 c306 c307 c308 c309 c310 c311 c312 c313 c314 c315 c316 c317 c318 c319 c320 c321 c322 c323 c324 c325 c326 c327 c328 c329 c330 c331 c332 c333 c334 c335 c336 c337 c338 c339 c340 c341 c342 c343 (.int .i64 7)) ⟨#[c0, c1, c2, c3, c4, c5, c6, .pointer (some ⟨nb, 0, none⟩), .pointer (some ⟨gb, 0, none⟩), .pointer (some ⟨wb, 0, none⟩), .slice ra RD.length rc, c11, c12, .pointer (some ⟨ob, 0, none⟩), .int .i64 (kw : Int), c15, c16, c17, c18, c19, c20, c21, c22, c23, c24, c25, c26, c27, c28, c29, c30, c31, c32, c33, c34, c35, c36, c37, c38, c39, c40, c41, c42, c43, c44, c45, c46, c47, c48, c49, c50, c51, c52, c53, c54, c55, c56, c57, c58, c59, c60, c61, c62, c63, c64, c65, c66, c67, c68, c69, c70, c71, c72, c73, c74, c75, c76, c77, c78, c79, c80, c81, c82, c83, c84, c85, c86, c87, c88, c89, c90, c91, c92, c93, c94, c95, c96, c97, .int .i64 7, c99, c100, c101, c102, c103, c104, c105, c106, c107, c108, c109, c110, c111, c112, c113, c114, c115, c116, c117, c118, c119, c120, c121, c122, c123, c124, c125, c126, c127, c128, c129, c130, c131, c132, c133, c134, c135, c136, c137, c138, c139, c140, c141, c142, c143, c144, c145, c146, c147, c148, c149, c150, c151, c152, c153, c154, c155, c156, c157, c158, c159, c160, c161, c162, c163, c164, c165, c166, c167, c168, c169, c170, c171, c172, c173, c174, c175, c176, c177, c178, c179, c180, c181, c182, c183, c184, c185, c186, c187, c188, c189, c190, c191, c192, c193, c194, c195, c196, c197, c198, c199, c200, c201, c202, c203, c204, c205, c206, c207, c208, c209, c210, c211, c212, c213, c214, c215, c216, c217, c218, c219, c220, c221, c222, c223, c224, c225, c226, c227, c228, c229, c230, c231, c232, c233, c234, c235, c236, c237, c238, c239, c240, c241, c242, c243, c244, c245, c246, c247, c248, c249, c250, c251, c252, c253, c254, c255, c256, c257, c258, c259, c260, c261, c262, c263, c264, c265, c266, c267, c268, c269, c270, c271, c272, c273, c274, c275, c276, c277, c278, c279, c280, c281, c282, c283, c284, c285, c286, c287, c288, c289, c290, c291, c292, c293, c294, c295, c296, c297, c298, c299, c300, c301, c302, c303, c304, c305, c306, c307, c308, c309, c310, c311, c312, c313, c314, c315, c316, c317, c318, c319, c320, c321, c322, c323, c324, c325, c326, c327, c328, c329, c330, c331, c332, c333, c334, c335, c336, c337, c338, c339, c340, c341, c342, c343], []⟩ V := by
  have HDV := Lib.hid hDV
  have HbV := Lib.hid hbV
  have Hop := Lib.hid hop
  clear hDV hbV hop
  conv => arg 2; whnf
  have nk := node_cell HDV.out hkw
  have nl := blk_lt HDV.out.nodes
  go_wp2_with fail
  refine (flush_any _ (b kw) (s kw) (HDV.out.nl kw hkw).D).mono ?_
  rintro _ w5 ⟨rfl, P5⟩
  have bn5 := P5.blk HDV.out.nodes (HDV.out.nl kw hkw).D (by decide) (by decide) (by decide) (by decide) (by decide) (by decide)
  have bw5 := P5.blk HDV.out.ws (HDV.out.nl kw hkw).D (by decide) (by decide) (by decide) (by decide) (by decide) (by decide)
  obtain ⟨q1, q2⟩ := sv_flush (HDV.out.nn kw hkw)
  have HP5 := Lib.hid P5
  clear P5 nk nl
  have hc : kw = 0 ∨ kw = 1 := by omega
  rcases hc with rfl | rfl
  · have HS5 := Lib.hid ((HDV.out.op (i := 0) (by decide) HP5.out q1 (Nat.le_refl k) q2 (fun e => by cases e) (fun _ => HDV.out.c0)).le (Nat.le_succ k))
    clear HP5 q1 q2 bn5 bw5
    go_wp2_with fail
    (try simp only [Exit.inBlock, Exit.then])
    unfold SwPost
    refine ⟨rfl, ?_⟩
    (repeat apply Exists.intro)
    exact ⟨rfl, HS5.out⟩
  · have n1 := blk_cell bn5 1
    have nl := blk_lt bn5
    have p1 := blk_cell bw5 1
    have pl := blk_lt bw5
    simp at n1 p1
    obtain ⟨t1, t2, t3⟩ := sv_cold q1 (W 0)
    clear bn5 bw5
    go_wp2_with fail
    refine (cold_any _ (b 1) _ HP5.out.D (W 1 : Int)).mono ?_
    rintro _ w6 ⟨rfl, P6⟩
    have HS6 := Lib.hid ((HDV.out.op (i := 1) (by decide) (HP5.out.trans P6) t1 (Nat.le_refl k) (fun r hr => t2 r (q2 r hr)) (fun _ => t3) (fun e => by cases e)).le (Nat.le_succ k))
    clear HP5 P6 q1 q2 t1 t2 t3 n1 nl p1 pl
    go_wp2_with fail
    (try simp only [Exit.inBlock, Exit.then])
    unfold SwPost
    refine ⟨rfl, ?_⟩
    (repeat apply Exists.intro)
    exact ⟨rfl, HS6.out⟩
end Go.Proofs.Ytieoejilppgebaa
