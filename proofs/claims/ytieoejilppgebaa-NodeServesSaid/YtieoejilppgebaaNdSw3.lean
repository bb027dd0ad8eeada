/- Ways of the switch of NodeServes. -/
import Derived.Test.YtieoejilppgebaaNdSw
namespace Go.Proofs.Ytieoejilppgebaa
open Go Go.RowKit Go.Maps
set_option maxRecDepth 1000000
set_option maxHeartbeats 40000000 in
theorem sw_3 {w V : World} {nb wb gb ob : Nat} {b : Nat → NB} {G : List EN} {W : Nat → Nat} {s : Nat → NS} {RD : List RR} {ra : Option Addr} {rc k kw : Nat} {who ii : Int} {key text : ByteArray} (hkw : kw < 2) (hks : key.size ≤ 1000) (hts' : text.size ≤ 1000) (hk150 : k ≤ 150) (hop : wOk ⟨3, who, ii, key, text⟩) (hDV : SV w V nb wb gb b G W W s RD (.slice ra RD.length rc) k) (hbV : V.heap[ob]? = some (.cells #[.int .i64 3, .int .i64 who, .int .i64 ii, .string key, .string text] 58)) (c0 c1 c2 c3 c4 c5 c6 c11 c12 c15 c16 c17 c18 c19 c20 c21 c22 c23 c24 c25 c26 c27 c28 c29 c30 c31 c32 c33 c34 c35 c36 c37 c38 c39 c40 c41 c42 c43 c44 c45 c46 c47 c48 c49 c50 c51 c52 c53 c54 c55 c56 c57 c58 c59 c60 c61 c62 c63 c64 c65 c66 c67 c68 c69 c70 c71 c72 c73 c74 c75 c76 c77 c78 c79 c80 c81 c82 c83 c84 c85 c86 c87 c88 c89 c90 c91 c92 c93 c94 c95 c96 c97 c99 c100 c101 c102 c103 c104 c105 c106 c107 c108 c109 c110 c111 c112 c113 c114 c115 c116 c117 c118 c119 c120 c121 c122 c123 c124 c125 c126 c127 c128 c129 c130 c131 c132 c133 c134 c135 c136 c137 c138 c139 c140 c141 c142 c143 c144 c145 c146 c147 c148 c149 c150 c151 c152 c153 c154 c155 c156 c157 c158 c159 c160 c161 c162 c163 c164 c165 c166 c167 c168 c169 c170 c171 c172 c173 c174 c175 c176 c177 c178 c179 c180 c181 c182 c183 c184 c185 c186 c187 c188 c189 c190 c191 c192 c193 c194 c195 c196 c197 c198 c199 c200 c201 c202 c203 c204 c205 c206 c207 c208 c209 c210 c211 c212 c213 c214 c215 c216 c217 c218 c219 c220 c221 c222 c223 c224 c225 c226 c227 c228 c229 c230 c231 c232 c233 c234 c235 c236 c237 c238 c239 c240 c241 c242 c243 c244 c245 c246 c247 c248 c249 c250 c251 c252 c253 c254 c255 c256 c257 c258 c259 c260 c261 c262 c263 c264 c265 c266 c267 c268 c269 c270 c271 c272 c273 c274 c275 c276 c277 c278 c279 c280 c281 c282 c283 c284 c285 c286 c287 c288 c289 c290 c291 c292 c293 c294 c295 c296 c297 c298 c299 c300 c301 c302 c303 c304 c305 c306 c307 c308 c309 c310 c311 c312 c313 c314 c315 c316 c317 c318 c319 c320 c321 c322 c323 c324 c325 c326 c327 c328 c329 c330 c331 c332 c333 c334 c335 c336 c337 c338 c339 c340 c341 c342 c343 : Value) :
    Code.wp Try.prog sw (SwPost w nb wb gb ob b k kw c0 c1 c2 c3 c4 c5 c6 c11 c12 c20 c21 c22 c23 c24 c25 c26 c27 c28 c29 c30 c31 c32 c33 c34 c35 c36 c37 c38 c39 c40 c41 c42 c43 c44 c45 c46 c47 c48 c49 c50 c51 c52 c53 c54 c55 c56 c57 c58 c59 c60 c61 c62 c63 c64 c65 c66 c67 c68 c69 c70 c71 c72 c73 c74 c75 c76 c77 c78 c79 c80 c81 c82 c83 c84 c85 c86 c87 c88 c89 c90 c91 c92 c93 c94 c95 c96 c97 c301 c302 c303 c304 c305 c306 c307 c308 c309 c310 c311 c312 c313 c314 c315 c316 c317 c318 c319 c320 c321 c322 c323 c324 c325 c326 c327 c328 c329 c330 c331 c332 c333 c334 c335 c336 c337 c338 c339 c340 c341 c342 c343 (.int .i64 3)) ⟨#[c0, c1, c2, c3, c4, c5, c6, .pointer (some ⟨nb, 0, none⟩), .pointer (some ⟨gb, 0, none⟩), .pointer (some ⟨wb, 0, none⟩), .slice ra RD.length rc, c11, c12, .pointer (some ⟨ob, 0, none⟩), .int .i64 (kw : Int), c15, c16, c17, c18, c19, c20, c21, c22, c23, c24, c25, c26, c27, c28, c29, c30, c31, c32, c33, c34, c35, c36, c37, c38, c39, c40, c41, c42, c43, c44, c45, c46, c47, c48, c49, c50, c51, c52, c53, c54, c55, c56, c57, c58, c59, c60, c61, c62, c63, c64, c65, c66, c67, c68, c69, c70, c71, c72, c73, c74, c75, c76, c77, c78, c79, c80, c81, c82, c83, c84, c85, c86, c87, c88, c89, c90, c91, c92, c93, c94, c95, c96, c97, .int .i64 3, c99, c100, c101, c102, c103, c104, c105, c106, c107, c108, c109, c110, c111, c112, c113, c114, c115, c116, c117, c118, c119, c120, c121, c122, c123, c124, c125, c126, c127, c128, c129, c130, c131, c132, c133, c134, c135, c136, c137, c138, c139, c140, c141, c142, c143, c144, c145, c146, c147, c148, c149, c150, c151, c152, c153, c154, c155, c156, c157, c158, c159, c160, c161, c162, c163, c164, c165, c166, c167, c168, c169, c170, c171, c172, c173, c174, c175, c176, c177, c178, c179, c180, c181, c182, c183, c184, c185, c186, c187, c188, c189, c190, c191, c192, c193, c194, c195, c196, c197, c198, c199, c200, c201, c202, c203, c204, c205, c206, c207, c208, c209, c210, c211, c212, c213, c214, c215, c216, c217, c218, c219, c220, c221, c222, c223, c224, c225, c226, c227, c228, c229, c230, c231, c232, c233, c234, c235, c236, c237, c238, c239, c240, c241, c242, c243, c244, c245, c246, c247, c248, c249, c250, c251, c252, c253, c254, c255, c256, c257, c258, c259, c260, c261, c262, c263, c264, c265, c266, c267, c268, c269, c270, c271, c272, c273, c274, c275, c276, c277, c278, c279, c280, c281, c282, c283, c284, c285, c286, c287, c288, c289, c290, c291, c292, c293, c294, c295, c296, c297, c298, c299, c300, c301, c302, c303, c304, c305, c306, c307, c308, c309, c310, c311, c312, c313, c314, c315, c316, c317, c318, c319, c320, c321, c322, c323, c324, c325, c326, c327, c328, c329, c330, c331, c332, c333, c334, c335, c336, c337, c338, c339, c340, c341, c342, c343], []⟩ V := by
  have HDV := Lib.hid hDV
  have HbV := Lib.hid hbV
  have Hop := Lib.hid hop
  clear hDV hbV hop
  conv => arg 2; whnf
  by_cases hRD : 0 < RD.length
  · have d6 : decide (0 < (RD.length : Int)) = true := decide_eq_true (by omega)
    obtain ⟨j, hj⟩ : ∃ j : Nat, (ii % 18446744073709551616) % (RD.length : Int) = (j : Int) := ⟨((ii % 18446744073709551616) % (RD.length : Int)).toNat, by have := Int.emod_nonneg (ii % 18446744073709551616) (show (RD.length : Int) ≠ 0 by omega); omega⟩
    have hjl : j < RD.length := by have := Int.emod_lt_of_pos (ii % 18446744073709551616) (show (0 : Int) < RD.length by omega); omega
    have Hj := Lib.hid hj
    have o2 := blk_cell HbV.out 2
    have ol := blk_lt HbV.out
    simp at o2
    have hu1 : IntKind.u64.wrap ii = ii % 18446744073709551616 := IntKind.wrap_u64 _
    have hu2 : IntKind.u64.wrap (RD.length : Int) = (RD.length : Int) := by rw [IntKind.wrap_u64]; have := HDV.out.rl; omega
    have hu3 : IntKind.u64.wrap (j : Int) = (j : Int) := by rw [IntKind.wrap_u64]; have := HDV.out.rl; omega
    have hu4 : IntKind.i64.wrap (j : Int) = (j : Int) := IntWalk.i64_in _ (by have := HDV.out.rl; omega)
    obtain ⟨r3, hr3⟩ : ∃ x, RD[j]? = some x := ⟨_, List.getElem?_eq_getElem hjl⟩
    obtain ⟨g, cg, hvv, hg1, hg2, hcx⟩ := HDV.out.own.cells rrCells_len hr3
    cases hvv
    obtain ⟨i, hi2, hwho, hrk⟩ := HDV.out.rd r3 (List.mem_of_getElem? hr3)
    have m0 := hcx 0 _ rfl
    have m1 := hcx 1 _ rfl
    have m2 := hcx 2 _ rfl
    have m3 := hcx 3 _ rfl
    have m4 := hcx 4 _ rfl
    have m5 := hcx 5 _ rfl
    have m6 := hcx 6 _ rfl
    have m7 := hcx 7 _ rfl
    simp only [Nat.add_zero] at m0
    clear hr3 hcx
    have hrk2 := hrk.ks
    have hrk3 := hrk.ts
    obtain ⟨rwho, rasof, rk, rtok, ⟨re, ri, rth, rtx, rz⟩⟩ := r3
    simp only at hwho hrk2 hrk3 m0 m1 m2 m3 m4 m5 m6 m7
    subst hwho
    have Hrk := Lib.hid hrk
    have hi3 : (i : Int) < 2 := by omega
    have hi4 : (0 : Int) ≤ (i : Int) := by omega
    have hi5 : ¬ (i : Int) < 0 := by omega
    have hi6 : ((i : Int)).toNat = i := by omega
    clear hrk
    go_wp2_with fail
    have kx := (Keep.refl NoB V).alloc (.cells #[.int .i64 i, .int .i64 rasof, .string rk, .int .i64 rtok, .int .i64 re, .int .i64 ri, .bool rth, .string rtx] 62)
    have HD2 := Lib.hid (HDV.out.keep0 kx)
    have b2 := blk_new V (.cells #[.int .i64 i, .int .i64 rasof, .string rk, .int .i64 rtok, .int .i64 re, .int .i64 ri, .bool rth, .string rtx] 62)
    clear o2 ol m0 m1 m2 m3 m4 m5 m6 m7 kx hu1 hu2 hu3 hu4 hj
    obtain ⟨qb, hqb⟩ : ∃ q, V.heap.size = q := ⟨_, rfl⟩
    rw [hqb] at b2 ⊢
    refine wp_region_pl (fun u => u.cell? ⟨nb, i, none⟩ = some (.pointer (some ⟨(b i).nb, 0, none⟩)) ∧ u.cell? ⟨qb, 0, none⟩ = some (.int .i64 (i : Int)) ∧ u.cell? ⟨qb, 1, none⟩ = some (.int .i64 rasof) ∧ u.cell? ⟨qb, 2, none⟩ = some (.string rk) ∧ u.cell? ⟨qb, 3, none⟩ = some (.int .i64 rtok) ∧ u.cell? ⟨qb, 4, none⟩ = some (.int .i64 re) ∧ u.cell? ⟨qb, 5, none⟩ = some (.int .i64 ri) ∧ u.cell? ⟨qb, 6, none⟩ = some (.bool rth) ∧ u.cell? ⟨qb, 7, none⟩ = some (.string rtx)) [] (.rd 0 (.rd 1 (.rd 2 (.rd 3 (.rd 4 (.rd 5 (.rd 6 (.rd 7 (.rd 8 (.rd 9 (.rd 10 (.rd 11 (.one 12 .done))))))))))))) (by kernel_rfl) (by kernel_rfl) (by kernel_rfl) (by kernel_rfl) (by intro c b d v u h; first | (cases d <;> exact h) | exact Exit.noConfusion (And.left h : Exit.panic c = Exit.normal)) ?_
    have kd0 : Keep NoB (V.alloc (.cells #[.int .i64 i, .int .i64 rasof, .string rk, .int .i64 rtok, .int .i64 re, .int .i64 ri, .bool rth, .string rtx] 62)) (V.alloc (.cells #[.int .i64 i, .int .i64 rasof, .string rk, .int .i64 rtok, .int .i64 re, .int .i64 ri, .bool rth, .string rtx] 62)).drew := (Keep.refl NoB (V.alloc (.cells #[.int .i64 i, .int .i64 rasof, .string rk, .int .i64 rtok, .int .i64 re, .int .i64 ri, .bool rth, .string rtx] 62))).drew
    have HD3 := Lib.hid (HD2.out.keep0 kd0)
    have b3 := blk_keep b2 kd0 (fun h => h)
    clear HD2 b2 kd0
    generalize (V.alloc (.cells #[.int .i64 i, .int .i64 rasof, .string rk, .int .i64 rtok, .int .i64 re, .int .i64 ri, .bool rth, .string rtx] 62)).drew = V3 at HD3 b3 ⊢
    have y0 := blk_cell b3 0
    have y1 := blk_cell b3 1
    have y2 := blk_cell b3 2
    have y3 := blk_cell b3 3
    have y4 := blk_cell b3 4
    have y5 := blk_cell b3 5
    have y6 := blk_cell b3 6
    have y7 := blk_cell b3 7
    simp at y0 y1 y2 y3 y4 y5 y6 y7
    have HS3 := Lib.hid (show V3.cell? ⟨nb, i, none⟩ = some (.pointer (some ⟨(b i).nb, 0, none⟩)) ∧ V3.cell? ⟨qb, 0, none⟩ = some (.int .i64 (i : Int)) ∧ V3.cell? ⟨qb, 1, none⟩ = some (.int .i64 rasof) ∧ V3.cell? ⟨qb, 2, none⟩ = some (.string rk) ∧ V3.cell? ⟨qb, 3, none⟩ = some (.int .i64 rtok) ∧ V3.cell? ⟨qb, 4, none⟩ = some (.int .i64 re) ∧ V3.cell? ⟨qb, 5, none⟩ = some (.int .i64 ri) ∧ V3.cell? ⟨qb, 6, none⟩ = some (.bool rth) ∧ V3.cell? ⟨qb, 7, none⟩ = some (.string rtx) from ⟨node_cell HD3.out hi2, y0, y1, y2, y3, y4, y5, y6, y7⟩)
    have Hb3 := Lib.hid b3
    clear y0 y1 y2 y3 y4 y5 y6 y7 b3
    first
      | refine pl_get (i := 0) rfl rfl HS3.out rfl (fun u hu => by (try dsimp only at hu); go_simp; rfl) (by simp only [List.setIfInBounds_toArray, List.set_cons_succ, List.set_cons_zero]; rfl) ?_
      | refine pl_skip (i := 0) rfl rfl HS3.out rfl (by simp only [List.setIfInBounds_toArray, List.set_cons_succ, List.set_cons_zero]; rfl) ?_
    first
      | refine pl_get (i := 1) rfl rfl HS3.out rfl (fun u hu => by (try dsimp only at hu); go_simp; rfl) (by simp only [List.setIfInBounds_toArray, List.set_cons_succ, List.set_cons_zero]; rfl) ?_
      | refine pl_skip (i := 1) rfl rfl HS3.out rfl (by simp only [List.setIfInBounds_toArray, List.set_cons_succ, List.set_cons_zero]; rfl) ?_
    first
      | refine pl_get (i := 2) rfl rfl HS3.out rfl (fun u hu => by (try dsimp only at hu); go_simp; rfl) (by simp only [List.setIfInBounds_toArray, List.set_cons_succ, List.set_cons_zero]; rfl) ?_
      | refine pl_skip (i := 2) rfl rfl HS3.out rfl (by simp only [List.setIfInBounds_toArray, List.set_cons_succ, List.set_cons_zero]; rfl) ?_
    first
      | refine pl_get (i := 3) rfl rfl HS3.out rfl (fun u hu => by (try dsimp only at hu); go_simp; rfl) (by simp only [List.setIfInBounds_toArray, List.set_cons_succ, List.set_cons_zero]; rfl) ?_
      | refine pl_skip (i := 3) rfl rfl HS3.out rfl (by simp only [List.setIfInBounds_toArray, List.set_cons_succ, List.set_cons_zero]; rfl) ?_
    first
      | refine pl_get (i := 4) rfl rfl HS3.out rfl (fun u hu => by (try dsimp only at hu); go_simp; rfl) (by simp only [List.setIfInBounds_toArray, List.set_cons_succ, List.set_cons_zero]; rfl) ?_
      | refine pl_skip (i := 4) rfl rfl HS3.out rfl (by simp only [List.setIfInBounds_toArray, List.set_cons_succ, List.set_cons_zero]; rfl) ?_
    first
      | refine pl_get (i := 5) rfl rfl HS3.out rfl (fun u hu => by (try dsimp only at hu); go_simp; rfl) (by simp only [List.setIfInBounds_toArray, List.set_cons_succ, List.set_cons_zero]; rfl) ?_
      | refine pl_skip (i := 5) rfl rfl HS3.out rfl (by simp only [List.setIfInBounds_toArray, List.set_cons_succ, List.set_cons_zero]; rfl) ?_
    first
      | refine pl_get (i := 6) rfl rfl HS3.out rfl (fun u hu => by (try dsimp only at hu); go_simp; rfl) (by simp only [List.setIfInBounds_toArray, List.set_cons_succ, List.set_cons_zero]; rfl) ?_
      | refine pl_skip (i := 6) rfl rfl HS3.out rfl (by simp only [List.setIfInBounds_toArray, List.set_cons_succ, List.set_cons_zero]; rfl) ?_
    first
      | refine pl_get (i := 7) rfl rfl HS3.out rfl (fun u hu => by (try dsimp only at hu); go_simp; rfl) (by simp only [List.setIfInBounds_toArray, List.set_cons_succ, List.set_cons_zero]; rfl) ?_
      | refine pl_skip (i := 7) rfl rfl HS3.out rfl (by simp only [List.setIfInBounds_toArray, List.set_cons_succ, List.set_cons_zero]; rfl) ?_
    first
      | refine pl_get (i := 8) rfl rfl HS3.out rfl (fun u hu => by (try dsimp only at hu); go_simp; rfl) (by simp only [List.setIfInBounds_toArray, List.set_cons_succ, List.set_cons_zero]; rfl) ?_
      | refine pl_skip (i := 8) rfl rfl HS3.out rfl (by simp only [List.setIfInBounds_toArray, List.set_cons_succ, List.set_cons_zero]; rfl) ?_
    first
      | refine pl_get (i := 9) rfl rfl HS3.out rfl (fun u hu => by (try dsimp only at hu); go_simp; rfl) (by simp only [List.setIfInBounds_toArray, List.set_cons_succ, List.set_cons_zero]; rfl) ?_
      | refine pl_skip (i := 9) rfl rfl HS3.out rfl (by simp only [List.setIfInBounds_toArray, List.set_cons_succ, List.set_cons_zero]; rfl) ?_
    first
      | refine pl_get (i := 10) rfl rfl HS3.out rfl (fun u hu => by (try dsimp only at hu); go_simp; rfl) (by simp only [List.setIfInBounds_toArray, List.set_cons_succ, List.set_cons_zero]; rfl) ?_
      | refine pl_skip (i := 10) rfl rfl HS3.out rfl (by simp only [List.setIfInBounds_toArray, List.set_cons_succ, List.set_cons_zero]; rfl) ?_
    first
      | refine pl_get (i := 11) rfl rfl HS3.out rfl (fun u hu => by (try dsimp only at hu); go_simp; rfl) (by simp only [List.setIfInBounds_toArray, List.set_cons_succ, List.set_cons_zero]; rfl) ?_
      | refine pl_skip (i := 11) rfl rfl HS3.out rfl (by simp only [List.setIfInBounds_toArray, List.set_cons_succ, List.set_cons_zero]; rfl) ?_
    obtain ⟨sz, hsz⟩ : ∃ q, (rk.size : Int) + (rtx.size : Int) + 32 = q := ⟨_, rfl⟩
    have Hsz := Lib.hid hsz
    have hszb : sz ≤ 1000000000 := by omega
    have hkm : rk.size ≤ maxLen := by unfold maxLen; omega
    clear hsz
    refine pl_one (i := 12) rfl ?_
    go_wp2_with ((go_at_call 9; refine (fill_any _ (b i) (s i) (HD3.out.nl i hi2).D rk rtok ⟨re, ri, rth, rtx, rasof⟩ hkm sz Hsz.out hszb (by have := (HD3.out.nn i hi2).nlen; omega)).mono ?_; rintro _ w5 ⟨s5, r5, hR, rfl, P5⟩))
    have b5 := P5.blk Hb3.out (HD3.out.nl i hi2).D (by decide) (by decide) (by decide) (by decide) (by decide) (by decide)
    obtain ⟨q1, q2, q3⟩ := sv_fill (HD3.out.nn i hi2) ((HD3.out.nl i hi2).D.ls.map.apart Ls.law9) Hrk.out ⟨re, ri, rth, rtx, rasof⟩ rfl hR
    have HS5 := Lib.hid (HD3.out.op4 hi2 P5 q1 (Nat.le_succ k) q2 q3)
    have y0 := blk_cell b5 0
    have y1 := blk_cell b5 1
    have y2 := blk_cell b5 2
    have y3 := blk_cell b5 3
    have y4 := blk_cell b5 4
    have y5 := blk_cell b5 5
    have y6 := blk_cell b5 6
    have y7 := blk_cell b5 7
    simp at y0 y1 y2 y3 y4 y5 y6 y7
    have HS6 := Lib.hid (show w5.cell? ⟨nb, i, none⟩ = some (.pointer (some ⟨(b i).nb, 0, none⟩)) ∧ w5.cell? ⟨qb, 0, none⟩ = some (.int .i64 (i : Int)) ∧ w5.cell? ⟨qb, 1, none⟩ = some (.int .i64 rasof) ∧ w5.cell? ⟨qb, 2, none⟩ = some (.string rk) ∧ w5.cell? ⟨qb, 3, none⟩ = some (.int .i64 rtok) ∧ w5.cell? ⟨qb, 4, none⟩ = some (.int .i64 re) ∧ w5.cell? ⟨qb, 5, none⟩ = some (.int .i64 ri) ∧ w5.cell? ⟨qb, 6, none⟩ = some (.bool rth) ∧ w5.cell? ⟨qb, 7, none⟩ = some (.string rtx) from ⟨node_cell HS5.out hi2, y0, y1, y2, y3, y4, y5, y6, y7⟩)
    clear y0 y1 y2 y3 y4 y5 y6 y7 b5 P5 hR q1 q2 q3 HD3 Hb3 HS3
    refine pl_next (fun _ => HS6.out) ?_
    refine pl_done ?_
    go_wp2_with fail
    (try simp only [Exit.inBlock, Exit.then])
    unfold SwPost
    refine ⟨rfl, ?_⟩
    (repeat apply Exists.intro)
    exact ⟨rfl, HS5.out⟩
  · have d6 : decide (0 < (RD.length : Int)) = false := decide_eq_false (by omega)
    have HS5 := Lib.hid (HDV.out.le (Nat.le_succ k))
    go_wp2_with fail
    (try simp only [Exit.inBlock, Exit.then])
    unfold SwPost
    refine ⟨rfl, ?_⟩
    (repeat apply Exists.intro)
    exact ⟨rfl, HS5.out⟩
end Go.Proofs.Ytieoejilppgebaa
