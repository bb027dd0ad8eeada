/- Ways of the switch of NodeServes. -/
import Derived.Test.YtieoejilppgebaaNdSw
namespace Go.Proofs.Ytieoejilppgebaa
open Go Go.RowKit Go.Maps
set_option maxRecDepth 1000000
set_option maxHeartbeats 40000000 in
theorem sw_2 {w V : World} {nb wb gb ob : Nat} {b : Nat → NB} {G : List EN} {W : Nat → Nat} {s : Nat → NS} {RD : List RR} {ra : Option Addr} {rc k kw : Nat} {who ii : Int} {key text : ByteArray} (hkw : kw < 2) (hks : key.size ≤ 1000) (hts' : text.size ≤ 1000) (hk150 : k ≤ 150) (hop : wOk ⟨2, who, ii, key, text⟩) (hDV : SV w V nb wb gb b G W W s RD (.slice ra RD.length rc) k) (hbV : V.heap[ob]? = some (.cells #[.int .i64 2, .int .i64 who, .int .i64 ii, .string key, .string text] 58)) (c0 c1 c2 c3 c4 c5 c6 c11 c12 c15 c16 c17 c18 c19 c20 c21 c22 c23 c24 c25 c26 c27 c28 c29 c30 c31 c32 c33 c34 c35 c36 c37 c38 c39 c40 c41 c42 c43 c44 c45 c46 c47 c48 c49 c50 c51 c52 c53 c54 c55 c56 c57 c58 c59 c60 c61 c62 c63 c64 c65 c66 c67 c68 c69 c70 c71 c72 c73 c74 c75 c76 c77 c78 c79 c80 c81 c82 c83 c84 c85 c86 c87 c88 c89 c90 c91 c92 c93 c94 c95 c96 c97 c99 c100 c101 c102 c103 c104 c105 c106 c107 c108 c109 c110 c111 c112 c113 c114 c115 c116 c117 c118 c119 c120 c121 c122 c123 c124 c125 c126 c127 c128 c129 c130 c131 c132 c133 c134 c135 c136 c137 c138 c139 c140 c141 c142 c143 c144 c145 c146 c147 c148 c149 c150 c151 c152 c153 c154 c155 c156 c157 c158 c159 c160 c161 c162 c163 c164 c165 c166 c167 c168 c169 c170 c171 c172 c173 c174 c175 c176 c177 c178 c179 c180 c181 c182 c183 c184 c185 c186 c187 c188 c189 c190 c191 c192 c193 c194 c195 c196 c197 c198 c199 c200 c201 c202 c203 c204 c205 c206 c207 c208 c209 c210 c211 c212 c213 c214 c215 c216 c217 c218 c219 c220 c221 c222 c223 c224 c225 c226 c227 c228 c229 c230 c231 c232 c233 c234 c235 c236 c237 c238 c239 c240 c241 c242 c243 c244 c245 c246 c247 c248 c249 c250 c251 c252 c253 c254 c255 c256 c257 c258 c259 c260 c261 c262 c263 c264 c265 c266 c267 c268 c269 c270 c271 c272 c273 c274 c275 c276 c277 c278 c279 c280 c281 c282 c283 c284 c285 c286 c287 c288 c289 c290 c291 c292 c293 c294 c295 c296 c297 c298 c299 c300 c301 c302 c303 c304 c305 c306 c307 c308 c309 c310 c311 c312 c313 c314 c315 c316 c317 c318 c319 c320 c321 c322 c323 c324 c325 c326 c327 c328 c329 c330 c331 c332 c333 c334 c335 c336 c337 c338 c339 c340 c341 c342 c343 : Value) :
    Code.wp Try.prog sw (SwPost w nb wb gb ob b k kw c0 c1 c2 c3 c4 c5 c6 c11 c12 c20 c21 c22 c23 c24 c25 c26 c27 c28 c29 c30 c31 c32 c33 c34 c35 c36 c37 c38 c39 c40 c41 c42 c43 c44 c45 c46 c47 c48 c49 c50 c51 c52 c53 c54 c55 c56 c57 c58 c59 c60 c61 c62 c63 c64 c65 c66 c67 c68 c69 c70 c71 c72 c73 c74 c75 c76 c77 c78 c79 c80 c81 c82 c83 c84 c85 c86 c87 c88 c89 c90 c91 c92 c93 c94 c95 c96 c97 c301 c302 c303 c304 c305 c306 c307 c308 c309 c310 c311 c312 c313 c314 c315 c316 c317 c318 c319 c320 c321 c322 c323 c324 c325 c326 c327 c328 c329 c330 c331 c332 c333 c334 c335 c336 c337 c338 c339 c340 c341 c342 c343 (.int .i64 2)) ⟨#[c0, c1, c2, c3, c4, c5, c6, .pointer (some ⟨nb, 0, none⟩), .pointer (some ⟨gb, 0, none⟩), .pointer (some ⟨wb, 0, none⟩), .slice ra RD.length rc, c11, c12, .pointer (some ⟨ob, 0, none⟩), .int .i64 (kw : Int), c15, c16, c17, c18, c19, c20, c21, c22, c23, c24, c25, c26, c27, c28, c29, c30, c31, c32, c33, c34, c35, c36, c37, c38, c39, c40, c41, c42, c43, c44, c45, c46, c47, c48, c49, c50, c51, c52, c53, c54, c55, c56, c57, c58, c59, c60, c61, c62, c63, c64, c65, c66, c67, c68, c69, c70, c71, c72, c73, c74, c75, c76, c77, c78, c79, c80, c81, c82, c83, c84, c85, c86, c87, c88, c89, c90, c91, c92, c93, c94, c95, c96, c97, .int .i64 2, c99, c100, c101, c102, c103, c104, c105, c106, c107, c108, c109, c110, c111, c112, c113, c114, c115, c116, c117, c118, c119, c120, c121, c122, c123, c124, c125, c126, c127, c128, c129, c130, c131, c132, c133, c134, c135, c136, c137, c138, c139, c140, c141, c142, c143, c144, c145, c146, c147, c148, c149, c150, c151, c152, c153, c154, c155, c156, c157, c158, c159, c160, c161, c162, c163, c164, c165, c166, c167, c168, c169, c170, c171, c172, c173, c174, c175, c176, c177, c178, c179, c180, c181, c182, c183, c184, c185, c186, c187, c188, c189, c190, c191, c192, c193, c194, c195, c196, c197, c198, c199, c200, c201, c202, c203, c204, c205, c206, c207, c208, c209, c210, c211, c212, c213, c214, c215, c216, c217, c218, c219, c220, c221, c222, c223, c224, c225, c226, c227, c228, c229, c230, c231, c232, c233, c234, c235, c236, c237, c238, c239, c240, c241, c242, c243, c244, c245, c246, c247, c248, c249, c250, c251, c252, c253, c254, c255, c256, c257, c258, c259, c260, c261, c262, c263, c264, c265, c266, c267, c268, c269, c270, c271, c272, c273, c274, c275, c276, c277, c278, c279, c280, c281, c282, c283, c284, c285, c286, c287, c288, c289, c290, c291, c292, c293, c294, c295, c296, c297, c298, c299, c300, c301, c302, c303, c304, c305, c306, c307, c308, c309, c310, c311, c312, c313, c314, c315, c316, c317, c318, c319, c320, c321, c322, c323, c324, c325, c326, c327, c328, c329, c330, c331, c332, c333, c334, c335, c336, c337, c338, c339, c340, c341, c342, c343], []⟩ V := by
  have HDV := Lib.hid hDV
  have HbV := Lib.hid hbV
  have Hop := Lib.hid hop
  clear hDV hbV hop
  conv => arg 2; whnf
  have hk2 : (kw : Int) < 2 := by omega
  have hk3 : (0 : Int) ≤ (kw : Int) := by omega
  have hk4 : ¬ (kw : Int) < 0 := by omega
  have hk5 : ((kw : Int)).toNat = kw := by omega
  have hRk : RD.length ≤ k := HDV.out.rl
  obtain ⟨s5, v5, hg5⟩ := get_total (s kw) key
  obtain ⟨gkd, xv, tok, rfl, hkd5, q1, q2, q3, q4⟩ := sv_get (HDV.out.nn kw hkw) ((HDV.out.nl kw hkw).D.ls.map.apart Ls.law9) hg5
  have HG5 := Lib.hid hg5
  have Hkd5 := Lib.hid hkd5
  have HQ := Lib.hid (show NN G (W kw) (k + 1) s5 ∧ S4 (s kw) s5 ∧ (∀ r, RK G (W kw) (s kw) r → RK G (W kw) s5 r) ∧ (tok ≤ 0 ∨ tok ≤ s5.last) from ⟨q1, q2, q3, q4⟩)
  clear hg5 hkd5 q1 q2 q3 q4
  go_wp2_with fail
  refine wp_region_pl (fun u => u.cell? ⟨nb, kw, none⟩ = some (.pointer (some ⟨(b kw).nb, 0, none⟩)) ∧ u.cell? ⟨ob, 3, none⟩ = some (.string key)) [7] (.rd 0 (.rd 1 (.rd 2 (.rd 3 (.rd 4 (.fork 5 (.one 6 (.one 7 .done)) 6 (.one 5 (.one 7 .done)))))))) (by kernel_rfl) (by kernel_rfl) (by kernel_rfl) (by kernel_rfl) (by intro c b d v u h; first | (cases d <;> exact h) | exact Exit.noConfusion (And.left h : Exit.panic c = Exit.normal)) ?_
  have kd0 : Keep NoB V V.drew := (Keep.refl NoB V).drew
  have HD1 := Lib.hid (HDV.out.keep0 kd0)
  have b1 := blk_keep HbV.out kd0 (fun h => h)
  generalize V.drew = V1 at HD1 b1 ⊢
  have o3' := blk_cell b1 3
  simp at o3'
  have HS1 := Lib.hid (show V1.cell? ⟨nb, kw, none⟩ = some (.pointer (some ⟨(b kw).nb, 0, none⟩)) ∧ V1.cell? ⟨ob, 3, none⟩ = some (.string key) from ⟨node_cell HD1.out hkw, o3'⟩)
  have Hb1 := Lib.hid b1
  clear kd0 o3' b1
  first
    | refine pl_get (i := 0) rfl rfl HS1.out rfl (fun u hu => by (try dsimp only at hu); go_simp; rfl) (by simp only [List.setIfInBounds_toArray, List.set_cons_succ, List.set_cons_zero]; rfl) ?_
    | refine pl_skip (i := 0) rfl rfl HS1.out rfl (by simp only [List.setIfInBounds_toArray, List.set_cons_succ, List.set_cons_zero]; rfl) ?_
  first
    | refine pl_get (i := 1) rfl rfl HS1.out rfl (fun u hu => by (try dsimp only at hu); go_simp; rfl) (by simp only [List.setIfInBounds_toArray, List.set_cons_succ, List.set_cons_zero]; rfl) ?_
    | refine pl_skip (i := 1) rfl rfl HS1.out rfl (by simp only [List.setIfInBounds_toArray, List.set_cons_succ, List.set_cons_zero]; rfl) ?_
  first
    | refine pl_get (i := 2) rfl rfl HS1.out rfl (fun u hu => by (try dsimp only at hu); go_simp; rfl) (by simp only [List.setIfInBounds_toArray, List.set_cons_succ, List.set_cons_zero]; rfl) ?_
    | refine pl_skip (i := 2) rfl rfl HS1.out rfl (by simp only [List.setIfInBounds_toArray, List.set_cons_succ, List.set_cons_zero]; rfl) ?_
  first
    | refine pl_get (i := 3) rfl rfl HS1.out rfl (fun u hu => by (try dsimp only at hu); go_simp; rfl) (by simp only [List.setIfInBounds_toArray, List.set_cons_succ, List.set_cons_zero]; rfl) ?_
    | refine pl_skip (i := 3) rfl rfl HS1.out rfl (by simp only [List.setIfInBounds_toArray, List.set_cons_succ, List.set_cons_zero]; rfl) ?_
  first
    | refine pl_get (i := 4) rfl rfl HS1.out rfl (fun u hu => by (try dsimp only at hu); go_simp; rfl) (by simp only [List.setIfInBounds_toArray, List.set_cons_succ, List.set_cons_zero]; rfl) ?_
    | refine pl_skip (i := 4) rfl rfl HS1.out rfl (by simp only [List.setIfInBounds_toArray, List.set_cons_succ, List.set_cons_zero]; rfl) ?_
  have hkm : key.size ≤ maxLen := by unfold maxLen; omega
  refine pl_fork (i := 5) (j := 6) rfl rfl ?_ ?_
  · go_wp2_with (go_at_call 8; refine (get_any _ (b kw) (s kw) s5 (HD1.out.nl kw hkw).D key hkm (by have := (HD1.out.nn kw hkw).llen; unfold maxLen; omega) (HD1.out.nn kw hkw).l0 (by have := (HD1.out.nn kw hkw).l1; omega) (ansV gkd xv tok) HG5.out).mono ?_; rintro _ w5 ⟨rfl, P5⟩; simp only [ansV])
    have b5 := P5.blk Hb1.out (HD1.out.nl kw hkw).D (by decide) (by decide) (by decide) (by decide) (by decide) (by decide)
    have o5 := blk_cell b5 3
    simp at o5
    have HS5 := Lib.hid (HD1.out.op4 hkw P5 HQ.out.1 (Nat.le_succ k) HQ.out.2.1 HQ.out.2.2.1)
    have HSS := Lib.hid (show w5.cell? ⟨nb, kw, none⟩ = some (.pointer (some ⟨(b kw).nb, 0, none⟩)) ∧ w5.cell? ⟨ob, 3, none⟩ = some (.string key) from ⟨node_cell HS5.out hkw, o5⟩)
    clear o5
    refine pl_next (fun _ => HSS.out) ?_
    refine pl_one (i := 6) rfl ?_
    go_wp2_with (fail)
    have kz := (Keep.refl NoB w5).alloc (.cells #[.int .i64 0, .int .i64 0, .int .i64 0, .bool false, .string ⟨#[]⟩, .int .i64 0, .int .i64 0] 31)
    refine pl_next (fun _ => ⟨kz.some HSS.out.1 (fun h => h), kz.some HSS.out.2 (fun h => h)⟩) ?_
    clear kz HSS
    refine pl_one (i := 7) rfl ?_
    go_wp2_with (fail)
    refine pl_next (fun h => by cases h) ?_
    refine pl_done ?_
    have kx := (Keep.refl NoB w5).alloc (.cells #[.int .i64 gkd, .int .i64 xv.e, .int .i64 xv.i, .bool xv.th, .string xv.tx, .int .i64 xv.a, .int .i64 tok] 31)
    have Hbq := Lib.hid (blk_new w5 (.cells #[.int .i64 gkd, .int .i64 xv.e, .int .i64 xv.i, .bool xv.th, .string xv.tx, .int .i64 xv.a, .int .i64 tok] 31))
    have HS6 := Lib.hid (HS5.out.keep0 kx)
    have Hbo6 := Lib.hid (blk_keep b5 kx (fun h => h))
    clear P5 kx HS1 HD1 Hb1 b5 HS5
    generalize World.alloc w5 (.cells #[.int .i64 gkd, .int .i64 xv.e, .int .i64 xv.i, .bool xv.th, .string xv.tx, .int .i64 xv.a, .int .i64 tok] 31) = w6 at Hbq HS6 Hbo6 ⊢
    generalize w5.heap.size = qb at Hbq ⊢
    have b6 := Hbq.out
    have z0 := blk_cell b6 0
    have z1 := blk_cell b6 1
    have z2 := blk_cell b6 2
    have z3 := blk_cell b6 3
    have z4 := blk_cell b6 4
    have z5 := blk_cell b6 5
    have z6 := blk_cell b6 6
    have o3 := blk_cell Hbo6.out 3
    simp at z0 z1 z2 z3 z4 z5 z6 o3
    rcases Hkd5.out with ⟨rfl, av, hav, hav2, hav3⟩ | hk0
    · obtain ⟨mx, hmx⟩ : ∃ n, max av (W kw) = n := ⟨_, rfl⟩
      have hmi : (if av < W kw then ((W kw : Nat) : Int) else ((av : Nat) : Int)) = (mx : Int) := by split <;> omega
      rw [hmx] at hav3
      have Hav3 := Lib.hid hav3
      clear hmx hav3
      go_wp2_with fail
      refine wp_region_pl (fun u => u.cell? ⟨qb, 0, none⟩ = some (.int .i64 1) ∧ u.cell? ⟨qb, 1, none⟩ = some (.int .i64 xv.e) ∧ u.cell? ⟨qb, 2, none⟩ = some (.int .i64 xv.i) ∧ u.cell? ⟨qb, 3, none⟩ = some (.bool xv.th) ∧ u.cell? ⟨qb, 4, none⟩ = some (.string xv.tx) ∧ u.cell? ⟨qb, 5, none⟩ = some (.int .i64 xv.a) ∧ u.cell? ⟨ob, 3, none⟩ = some (.string key) ∧ u.cell? ⟨wb, kw, none⟩ = some (.int .i64 (W kw : Int))) [] (.rd 0 (.rd 1 (.rd 2 (.rd 3 (.rd 4 (.rd 5 (.rd 6 (.rd 7 (.rd 8 (.rd 9 (.rd 10 (.rd 11 (.rd 12 (.rd 13 (.rd 14 (.one 15 (.rd 16 (.rd 17 .done)))))))))))))))))) (by kernel_rfl) (by kernel_rfl) (by kernel_rfl) (by kernel_rfl) (by intro c b d v u h; first | (cases d <;> exact h) | exact Exit.noConfusion (And.left h : Exit.panic c = Exit.normal)) ?_
      have kd0 : Keep NoB w6 w6.drew := (Keep.refl NoB w6).drew
      have p0 := place_cell HS6.out hkw
      have HS7 := Lib.hid (show w6.drew.cell? ⟨qb, 0, none⟩ = some (.int .i64 1) ∧ w6.drew.cell? ⟨qb, 1, none⟩ = some (.int .i64 xv.e) ∧ w6.drew.cell? ⟨qb, 2, none⟩ = some (.int .i64 xv.i) ∧ w6.drew.cell? ⟨qb, 3, none⟩ = some (.bool xv.th) ∧ w6.drew.cell? ⟨qb, 4, none⟩ = some (.string xv.tx) ∧ w6.drew.cell? ⟨qb, 5, none⟩ = some (.int .i64 xv.a) ∧ w6.drew.cell? ⟨ob, 3, none⟩ = some (.string key) ∧ w6.drew.cell? ⟨wb, kw, none⟩ = some (.int .i64 (W kw : Int)) from ⟨z0, z1, z2, z3, z4, z5, o3, p0⟩)
      have HD7 := Lib.hid (HS6.out.keep0 kd0)
      have Hbq7 := Lib.hid (blk_keep Hbq.out kd0 (fun h => h))
      have Hbo7 := Lib.hid (blk_keep Hbo6.out kd0 (fun h => h))
      clear kd0 z0 z1 z2 z3 z4 z5 z6 o3 p0 b6 Hbq HS6 Hbo6
      generalize w6.drew = w7 at HS7 HD7 Hbq7 Hbo7 ⊢
      first
        | refine pl_get (i := 0) rfl rfl HS7.out rfl (fun u hu => by (try dsimp only at hu); go_simp; rfl) (by simp only [List.setIfInBounds_toArray, List.set_cons_succ, List.set_cons_zero]; rfl) ?_
        | refine pl_skip (i := 0) rfl rfl HS7.out rfl (by simp only [List.setIfInBounds_toArray, List.set_cons_succ, List.set_cons_zero]; rfl) ?_
      first
        | refine pl_get (i := 1) rfl rfl HS7.out rfl (fun u hu => by (try dsimp only at hu); go_simp; rfl) (by simp only [List.setIfInBounds_toArray, List.set_cons_succ, List.set_cons_zero]; rfl) ?_
        | refine pl_skip (i := 1) rfl rfl HS7.out rfl (by simp only [List.setIfInBounds_toArray, List.set_cons_succ, List.set_cons_zero]; rfl) ?_
      first
        | refine pl_get (i := 2) rfl rfl HS7.out rfl (fun u hu => by (try dsimp only at hu); go_simp; rfl) (by simp only [List.setIfInBounds_toArray, List.set_cons_succ, List.set_cons_zero]; rfl) ?_
        | refine pl_skip (i := 2) rfl rfl HS7.out rfl (by simp only [List.setIfInBounds_toArray, List.set_cons_succ, List.set_cons_zero]; rfl) ?_
      first
        | refine pl_get (i := 3) rfl rfl HS7.out rfl (fun u hu => by (try dsimp only at hu); go_simp; rfl) (by simp only [List.setIfInBounds_toArray, List.set_cons_succ, List.set_cons_zero]; rfl) ?_
        | refine pl_skip (i := 3) rfl rfl HS7.out rfl (by simp only [List.setIfInBounds_toArray, List.set_cons_succ, List.set_cons_zero]; rfl) ?_
      first
        | refine pl_get (i := 4) rfl rfl HS7.out rfl (fun u hu => by (try dsimp only at hu); go_simp; rfl) (by simp only [List.setIfInBounds_toArray, List.set_cons_succ, List.set_cons_zero]; rfl) ?_
        | refine pl_skip (i := 4) rfl rfl HS7.out rfl (by simp only [List.setIfInBounds_toArray, List.set_cons_succ, List.set_cons_zero]; rfl) ?_
      first
        | refine pl_get (i := 5) rfl rfl HS7.out rfl (fun u hu => by (try dsimp only at hu); go_simp; rfl) (by simp only [List.setIfInBounds_toArray, List.set_cons_succ, List.set_cons_zero]; rfl) ?_
        | refine pl_skip (i := 5) rfl rfl HS7.out rfl (by simp only [List.setIfInBounds_toArray, List.set_cons_succ, List.set_cons_zero]; rfl) ?_
      first
        | refine pl_get (i := 6) rfl rfl HS7.out rfl (fun u hu => by (try dsimp only at hu); go_simp; rfl) (by simp only [List.setIfInBounds_toArray, List.set_cons_succ, List.set_cons_zero]; rfl) ?_
        | refine pl_skip (i := 6) rfl rfl HS7.out rfl (by simp only [List.setIfInBounds_toArray, List.set_cons_succ, List.set_cons_zero]; rfl) ?_
      first
        | refine pl_get (i := 7) rfl rfl HS7.out rfl (fun u hu => by (try dsimp only at hu); go_simp; rfl) (by simp only [List.setIfInBounds_toArray, List.set_cons_succ, List.set_cons_zero]; rfl) ?_
        | refine pl_skip (i := 7) rfl rfl HS7.out rfl (by simp only [List.setIfInBounds_toArray, List.set_cons_succ, List.set_cons_zero]; rfl) ?_
      first
        | refine pl_get (i := 8) rfl rfl HS7.out rfl (fun u hu => by (try dsimp only at hu); go_simp; rfl) (by simp only [List.setIfInBounds_toArray, List.set_cons_succ, List.set_cons_zero]; rfl) ?_
        | refine pl_skip (i := 8) rfl rfl HS7.out rfl (by simp only [List.setIfInBounds_toArray, List.set_cons_succ, List.set_cons_zero]; rfl) ?_
      first
        | refine pl_get (i := 9) rfl rfl HS7.out rfl (fun u hu => by (try dsimp only at hu); go_simp; rfl) (by simp only [List.setIfInBounds_toArray, List.set_cons_succ, List.set_cons_zero]; rfl) ?_
        | refine pl_skip (i := 9) rfl rfl HS7.out rfl (by simp only [List.setIfInBounds_toArray, List.set_cons_succ, List.set_cons_zero]; rfl) ?_
      first
        | refine pl_get (i := 10) rfl rfl HS7.out rfl (fun u hu => by (try dsimp only at hu); go_simp; rfl) (by simp only [List.setIfInBounds_toArray, List.set_cons_succ, List.set_cons_zero]; rfl) ?_
        | refine pl_skip (i := 10) rfl rfl HS7.out rfl (by simp only [List.setIfInBounds_toArray, List.set_cons_succ, List.set_cons_zero]; rfl) ?_
      first
        | refine pl_get (i := 11) rfl rfl HS7.out rfl (fun u hu => by (try dsimp only at hu); go_simp; rfl) (by simp only [List.setIfInBounds_toArray, List.set_cons_succ, List.set_cons_zero]; rfl) ?_
        | refine pl_skip (i := 11) rfl rfl HS7.out rfl (by simp only [List.setIfInBounds_toArray, List.set_cons_succ, List.set_cons_zero]; rfl) ?_
      first
        | refine pl_get (i := 12) rfl rfl HS7.out rfl (fun u hu => by (try dsimp only at hu); go_simp; rfl) (by simp only [List.setIfInBounds_toArray, List.set_cons_succ, List.set_cons_zero]; rfl) ?_
        | refine pl_skip (i := 12) rfl rfl HS7.out rfl (by simp only [List.setIfInBounds_toArray, List.set_cons_succ, List.set_cons_zero]; rfl) ?_
      first
        | refine pl_get (i := 13) rfl rfl HS7.out rfl (fun u hu => by (try dsimp only at hu); go_simp; rfl) (by simp only [List.setIfInBounds_toArray, List.set_cons_succ, List.set_cons_zero]; rfl) ?_
        | refine pl_skip (i := 13) rfl rfl HS7.out rfl (by simp only [List.setIfInBounds_toArray, List.set_cons_succ, List.set_cons_zero]; rfl) ?_
      first
        | refine pl_get (i := 14) rfl rfl HS7.out rfl (fun u hu => by (try dsimp only at hu); go_simp; rfl) (by simp only [List.setIfInBounds_toArray, List.set_cons_succ, List.set_cons_zero]; rfl) ?_
        | refine pl_skip (i := 14) rfl rfl HS7.out rfl (by simp only [List.setIfInBounds_toArray, List.set_cons_succ, List.set_cons_zero]; rfl) ?_
      obtain ⟨ga, gc, hgb, O⟩ := HD7.out.log
      have hGl : G.length ≤ 200 := by have := HD7.out.gl; omega
      refine pl_one (i := 15) rfl ?_
      go_wp2_with ((go_at_call 18; refine (at_any _ w.heap.size gb ga gc G key mx hgb O (by omega) ⟨xv.e, xv.i, xv.th, xv.tx, 0⟩ Hav3.out.symm).mono ?_; rintro _ w8 ⟨rfl, k8⟩; simp only []))
      have HD8 := Lib.hid (HD7.out.keep0 k8)
      have Hbq8 := Lib.hid (blk_keep Hbq7.out k8 (fun h => h))
      have Hbo8 := Lib.hid (blk_keep Hbo7.out k8 (fun h => h))
      have b8 := Hbq8.out
      have HS8 := Lib.hid (show w8.cell? ⟨qb, 0, none⟩ = some (.int .i64 1) ∧ w8.cell? ⟨qb, 1, none⟩ = some (.int .i64 xv.e) ∧ w8.cell? ⟨qb, 2, none⟩ = some (.int .i64 xv.i) ∧ w8.cell? ⟨qb, 3, none⟩ = some (.bool xv.th) ∧ w8.cell? ⟨qb, 4, none⟩ = some (.string xv.tx) ∧ w8.cell? ⟨qb, 5, none⟩ = some (.int .i64 xv.a) ∧ w8.cell? ⟨ob, 3, none⟩ = some (.string key) ∧ w8.cell? ⟨wb, kw, none⟩ = some (.int .i64 (W kw : Int)) from ⟨k8.some HS7.out.1 (fun h => h), k8.some HS7.out.2.1 (fun h => h), k8.some HS7.out.2.2.1 (fun h => h), k8.some HS7.out.2.2.2.1 (fun h => h), k8.some HS7.out.2.2.2.2.1 (fun h => h), k8.some HS7.out.2.2.2.2.2.1 (fun h => h), k8.some HS7.out.2.2.2.2.2.2.1 (fun h => h), k8.some HS7.out.2.2.2.2.2.2.2 (fun h => h)⟩)
      clear k8 hgb O HS7 HD7 Hbq7 Hbo7
      refine pl_next (fun _ => HS8.out) ?_
      first
        | refine pl_get (i := 16) rfl rfl HS8.out rfl (fun u hu => by (try dsimp only at hu); go_simp; rfl) (by simp only [List.setIfInBounds_toArray, List.set_cons_succ, List.set_cons_zero]; rfl) ?_
        | refine pl_skip (i := 16) rfl rfl HS8.out rfl (by simp only [List.setIfInBounds_toArray, List.set_cons_succ, List.set_cons_zero]; rfl) ?_
      first
        | refine pl_get (i := 17) rfl rfl HS8.out rfl (fun u hu => by (try dsimp only at hu); go_simp; rfl) (by simp only [List.setIfInBounds_toArray, List.set_cons_succ, List.set_cons_zero]; rfl) ?_
        | refine pl_skip (i := 17) rfl rfl HS8.out rfl (by simp only [List.setIfInBounds_toArray, List.set_cons_succ, List.set_cons_zero]; rfl) ?_
      refine pl_done ?_
      clear hmi hav hav2
      have c8 := blk_cell Hbq8.out 6
      simp at c8
      have cl8 := blk_lt Hbq8.out
      by_cases htok : 0 < tok
      · have d7 : decide (0 < tok) = true := decide_eq_true htok
        have htl : tok ≤ s5.last := HQ.out.2.2.2.resolve_left (by omega)
        obtain ⟨ga, gc, hgb, O⟩ := HD8.out.log
        have HO := Lib.hid O
        have Hgb := Lib.hid hgb
        have hGl : G.length ≤ 200 := by have := HD8.out.gl; omega
        have hRl : RD.length ≤ 151 := by have := HD8.out.rl; omega
        clear hgb O
        obtain ⟨vX, hvX⟩ : ∃ v, atI G key G.length = v := ⟨_, rfl⟩
        have HvX := Lib.hid hvX
        clear hvX
        go_wp2_with fail
        refine wp_region_pl (fun u => u.cell? ⟨gb, 0, none⟩ = some (.slice ga G.length gc) ∧ u.cell? ⟨ob, 3, none⟩ = some (.string key) ∧ u.cell? ⟨qb, 6, none⟩ = some (.int .i64 tok)) [] (.rd 0 (.rd 1 (.rd 2 (.rd 3 (.rd 4 (.rd 5 (.rd 6 (.rd 7 (.rd 8 (.rd 9 (.rd 10 (.rd 11 (.rd 12 (.rd 13 (.rd 14 (.rd 15 (.rd 16 (.rd 17 (.rd 18 (.one 19 (.rd 20 (.one 21 (.one 22 (.one 23 .done)))))))))))))))))))))))) (by kernel_rfl) (by kernel_rfl) (by kernel_rfl) (by kernel_rfl) (by intro c b d v u h; first | (cases d <;> exact h) | exact Exit.noConfusion (And.left h : Exit.panic c = Exit.normal)) ?_
        have kd9 : Keep NoB w8 (w8).drew := (Keep.refl NoB _).drew
        have HD9 := Lib.hid (HD8.out.keep0 kd9)
        have Hgb9 := Lib.hid (blk_keep Hgb.out kd9 (fun h => h))
        have HO9 := Lib.hid (HO.out.keep kd9 (fun _ _ h => h))
        have Hbq9 := Lib.hid (blk_keep Hbq8.out kd9 (fun h => h))
        have Hbo9 := Lib.hid (blk_keep Hbo8.out kd9 (fun h => h))
        clear kd9 c8 cl8 HD8 Hbq8 Hbo8 HO Hgb
        generalize (w8).drew = w9 at HD9 Hgb9 HO9 Hbq9 Hbo9 ⊢
        have e0 := blk_cell Hgb9.out 0
        have e3 := blk_cell Hbo9.out 3
        have e6 := blk_cell Hbq9.out 6
        simp at e0 e3 e6
        have HS9 := Lib.hid (show w9.cell? ⟨gb, 0, none⟩ = some (.slice ga G.length gc) ∧ w9.cell? ⟨ob, 3, none⟩ = some (.string key) ∧ w9.cell? ⟨qb, 6, none⟩ = some (.int .i64 tok) from ⟨e0, e3, e6⟩)
        clear e0 e3 e6
        first
          | refine pl_get (i := 0) rfl rfl HS9.out rfl (fun u hu => by (try dsimp only at hu); go_simp; rfl) (by simp only [List.setIfInBounds_toArray, List.set_cons_succ, List.set_cons_zero]; rfl) ?_
          | refine pl_skip (i := 0) rfl rfl HS9.out rfl (by simp only [List.setIfInBounds_toArray, List.set_cons_succ, List.set_cons_zero]; rfl) ?_
        first
          | refine pl_get (i := 1) rfl rfl HS9.out rfl (fun u hu => by (try dsimp only at hu); go_simp; rfl) (by simp only [List.setIfInBounds_toArray, List.set_cons_succ, List.set_cons_zero]; rfl) ?_
          | refine pl_skip (i := 1) rfl rfl HS9.out rfl (by simp only [List.setIfInBounds_toArray, List.set_cons_succ, List.set_cons_zero]; rfl) ?_
        first
          | refine pl_get (i := 2) rfl rfl HS9.out rfl (fun u hu => by (try dsimp only at hu); go_simp; rfl) (by simp only [List.setIfInBounds_toArray, List.set_cons_succ, List.set_cons_zero]; rfl) ?_
          | refine pl_skip (i := 2) rfl rfl HS9.out rfl (by simp only [List.setIfInBounds_toArray, List.set_cons_succ, List.set_cons_zero]; rfl) ?_
        first
          | refine pl_get (i := 3) rfl rfl HS9.out rfl (fun u hu => by (try dsimp only at hu); go_simp; rfl) (by simp only [List.setIfInBounds_toArray, List.set_cons_succ, List.set_cons_zero]; rfl) ?_
          | refine pl_skip (i := 3) rfl rfl HS9.out rfl (by simp only [List.setIfInBounds_toArray, List.set_cons_succ, List.set_cons_zero]; rfl) ?_
        first
          | refine pl_get (i := 4) rfl rfl HS9.out rfl (fun u hu => by (try dsimp only at hu); go_simp; rfl) (by simp only [List.setIfInBounds_toArray, List.set_cons_succ, List.set_cons_zero]; rfl) ?_
          | refine pl_skip (i := 4) rfl rfl HS9.out rfl (by simp only [List.setIfInBounds_toArray, List.set_cons_succ, List.set_cons_zero]; rfl) ?_
        first
          | refine pl_get (i := 5) rfl rfl HS9.out rfl (fun u hu => by (try dsimp only at hu); go_simp; rfl) (by simp only [List.setIfInBounds_toArray, List.set_cons_succ, List.set_cons_zero]; rfl) ?_
          | refine pl_skip (i := 5) rfl rfl HS9.out rfl (by simp only [List.setIfInBounds_toArray, List.set_cons_succ, List.set_cons_zero]; rfl) ?_
        first
          | refine pl_get (i := 6) rfl rfl HS9.out rfl (fun u hu => by (try dsimp only at hu); go_simp; rfl) (by simp only [List.setIfInBounds_toArray, List.set_cons_succ, List.set_cons_zero]; rfl) ?_
          | refine pl_skip (i := 6) rfl rfl HS9.out rfl (by simp only [List.setIfInBounds_toArray, List.set_cons_succ, List.set_cons_zero]; rfl) ?_
        first
          | refine pl_get (i := 7) rfl rfl HS9.out rfl (fun u hu => by (try dsimp only at hu); go_simp; rfl) (by simp only [List.setIfInBounds_toArray, List.set_cons_succ, List.set_cons_zero]; rfl) ?_
          | refine pl_skip (i := 7) rfl rfl HS9.out rfl (by simp only [List.setIfInBounds_toArray, List.set_cons_succ, List.set_cons_zero]; rfl) ?_
        first
          | refine pl_get (i := 8) rfl rfl HS9.out rfl (fun u hu => by (try dsimp only at hu); go_simp; rfl) (by simp only [List.setIfInBounds_toArray, List.set_cons_succ, List.set_cons_zero]; rfl) ?_
          | refine pl_skip (i := 8) rfl rfl HS9.out rfl (by simp only [List.setIfInBounds_toArray, List.set_cons_succ, List.set_cons_zero]; rfl) ?_
        first
          | refine pl_get (i := 9) rfl rfl HS9.out rfl (fun u hu => by (try dsimp only at hu); go_simp; rfl) (by simp only [List.setIfInBounds_toArray, List.set_cons_succ, List.set_cons_zero]; rfl) ?_
          | refine pl_skip (i := 9) rfl rfl HS9.out rfl (by simp only [List.setIfInBounds_toArray, List.set_cons_succ, List.set_cons_zero]; rfl) ?_
        first
          | refine pl_get (i := 10) rfl rfl HS9.out rfl (fun u hu => by (try dsimp only at hu); go_simp; rfl) (by simp only [List.setIfInBounds_toArray, List.set_cons_succ, List.set_cons_zero]; rfl) ?_
          | refine pl_skip (i := 10) rfl rfl HS9.out rfl (by simp only [List.setIfInBounds_toArray, List.set_cons_succ, List.set_cons_zero]; rfl) ?_
        first
          | refine pl_get (i := 11) rfl rfl HS9.out rfl (fun u hu => by (try dsimp only at hu); go_simp; rfl) (by simp only [List.setIfInBounds_toArray, List.set_cons_succ, List.set_cons_zero]; rfl) ?_
          | refine pl_skip (i := 11) rfl rfl HS9.out rfl (by simp only [List.setIfInBounds_toArray, List.set_cons_succ, List.set_cons_zero]; rfl) ?_
        first
          | refine pl_get (i := 12) rfl rfl HS9.out rfl (fun u hu => by (try dsimp only at hu); go_simp; rfl) (by simp only [List.setIfInBounds_toArray, List.set_cons_succ, List.set_cons_zero]; rfl) ?_
          | refine pl_skip (i := 12) rfl rfl HS9.out rfl (by simp only [List.setIfInBounds_toArray, List.set_cons_succ, List.set_cons_zero]; rfl) ?_
        first
          | refine pl_get (i := 13) rfl rfl HS9.out rfl (fun u hu => by (try dsimp only at hu); go_simp; rfl) (by simp only [List.setIfInBounds_toArray, List.set_cons_succ, List.set_cons_zero]; rfl) ?_
          | refine pl_skip (i := 13) rfl rfl HS9.out rfl (by simp only [List.setIfInBounds_toArray, List.set_cons_succ, List.set_cons_zero]; rfl) ?_
        first
          | refine pl_get (i := 14) rfl rfl HS9.out rfl (fun u hu => by (try dsimp only at hu); go_simp; rfl) (by simp only [List.setIfInBounds_toArray, List.set_cons_succ, List.set_cons_zero]; rfl) ?_
          | refine pl_skip (i := 14) rfl rfl HS9.out rfl (by simp only [List.setIfInBounds_toArray, List.set_cons_succ, List.set_cons_zero]; rfl) ?_
        first
          | refine pl_get (i := 15) rfl rfl HS9.out rfl (fun u hu => by (try dsimp only at hu); go_simp; rfl) (by simp only [List.setIfInBounds_toArray, List.set_cons_succ, List.set_cons_zero]; rfl) ?_
          | refine pl_skip (i := 15) rfl rfl HS9.out rfl (by simp only [List.setIfInBounds_toArray, List.set_cons_succ, List.set_cons_zero]; rfl) ?_
        first
          | refine pl_get (i := 16) rfl rfl HS9.out rfl (fun u hu => by (try dsimp only at hu); go_simp; rfl) (by simp only [List.setIfInBounds_toArray, List.set_cons_succ, List.set_cons_zero]; rfl) ?_
          | refine pl_skip (i := 16) rfl rfl HS9.out rfl (by simp only [List.setIfInBounds_toArray, List.set_cons_succ, List.set_cons_zero]; rfl) ?_
        first
          | refine pl_get (i := 17) rfl rfl HS9.out rfl (fun u hu => by (try dsimp only at hu); go_simp; rfl) (by simp only [List.setIfInBounds_toArray, List.set_cons_succ, List.set_cons_zero]; rfl) ?_
          | refine pl_skip (i := 17) rfl rfl HS9.out rfl (by simp only [List.setIfInBounds_toArray, List.set_cons_succ, List.set_cons_zero]; rfl) ?_
        first
          | refine pl_get (i := 18) rfl rfl HS9.out rfl (fun u hu => by (try dsimp only at hu); go_simp; rfl) (by simp only [List.setIfInBounds_toArray, List.set_cons_succ, List.set_cons_zero]; rfl) ?_
          | refine pl_skip (i := 18) rfl rfl HS9.out rfl (by simp only [List.setIfInBounds_toArray, List.set_cons_succ, List.set_cons_zero]; rfl) ?_
        refine pl_one (i := 19) rfl ?_
        go_wp2_with ((go_at_call 18; refine (at_any _ w.heap.size gb ga gc G key G.length Hgb9.out HO9.out (by omega) vX HvX.out).mono ?_; rintro _ w10 ⟨rfl, k10⟩))
        have kx := k10.alloc (.cells #[.int .i64 (kw : Int), .int .i64 (G.length : Int), .string key, .int .i64 tok, .int .i64 vX.e, .int .i64 vX.i, .bool vX.th, .string vX.tx] 62)
        have HS10 := Lib.hid (show w10.cell? ⟨gb, 0, none⟩ = some (.slice ga G.length gc) ∧ w10.cell? ⟨ob, 3, none⟩ = some (.string key) ∧ w10.cell? ⟨qb, 6, none⟩ = some (.int .i64 tok) from ⟨k10.some HS9.out.1 (fun h => h), k10.some HS9.out.2.1 (fun h => h), k10.some HS9.out.2.2 (fun h => h)⟩)
        have HS11 := Lib.hid (show (w10.alloc (.cells #[.int .i64 (kw : Int), .int .i64 (G.length : Int), .string key, .int .i64 tok, .int .i64 vX.e, .int .i64 vX.i, .bool vX.th, .string vX.tx] 62)).cell? ⟨gb, 0, none⟩ = some (.slice ga G.length gc) ∧ (w10.alloc (.cells #[.int .i64 (kw : Int), .int .i64 (G.length : Int), .string key, .int .i64 tok, .int .i64 vX.e, .int .i64 vX.i, .bool vX.th, .string vX.tx] 62)).cell? ⟨ob, 3, none⟩ = some (.string key) ∧ (w10.alloc (.cells #[.int .i64 (kw : Int), .int .i64 (G.length : Int), .string key, .int .i64 tok, .int .i64 vX.e, .int .i64 vX.i, .bool vX.th, .string vX.tx] 62)).cell? ⟨qb, 6, none⟩ = some (.int .i64 tok) from ⟨kx.some HS9.out.1 (fun h => h), kx.some HS9.out.2.1 (fun h => h), kx.some HS9.out.2.2 (fun h => h)⟩)
        have HD11 := Lib.hid (HD9.out.keep0 kx)
        have Hgb11 := Lib.hid (blk_keep Hgb9.out kx (fun h => h))
        have Hbq11 := Lib.hid (blk_keep Hbq9.out kx (fun h => h))
        have Hbo11 := Lib.hid (blk_keep Hbo9.out kx (fun h => h))
        have ex := blk_new w10 (.cells #[.int .i64 (kw : Int), .int .i64 (G.length : Int), .string key, .int .i64 tok, .int .i64 vX.e, .int .i64 vX.i, .bool vX.th, .string vX.tx] 62)
        clear k10 kx HD9 Hgb9 HO9 Hbq9 Hbo9 HS9
        refine pl_next (fun _ => HS10.out) ?_
        refine pl_get (i := 20) rfl rfl HS10.out rfl (fun u _ => exec_bd rfl rfl ((fun u => bd62 u (kw : Int) (G.length : Int) tok vX.e vX.i vX.th key vX.tx) u)) (by simp only [List.setIfInBounds_toArray, List.set_cons_succ, List.set_cons_zero]; rfl) ?_
        refine pl_act (i := 21) rfl rfl rfl (exec_bs rfl rfl (bs62 w10 (kw : Int) (G.length : Int) tok vX.e vX.i vX.th key vX.tx)) (by simp only [List.setIfInBounds_toArray, List.set_cons_succ, List.set_cons_zero]; rfl) ?_
        refine pl_next (fun _ => HS11.out) ?_
        clear HS10
        generalize w10.alloc (.cells #[.int .i64 (kw : Int), .int .i64 (G.length : Int), .string key, .int .i64 tok, .int .i64 vX.e, .int .i64 vX.i, .bool vX.th, .string vX.tx] 62) = w11 at HS11 HD11 Hgb11 Hbq11 Hbo11 ex ⊢
        generalize w10.heap.size = xb at ex ⊢
        obtain ⟨RD', hRD'⟩ : ∃ l, RD ++ [(⟨(kw : Int), (G.length : Int), key, tok, vX⟩ : RR)] = l := ⟨_, rfl⟩
        have HRD' := Lib.hid hRD'
        have hws : w.heap.size ≤ w11.heap.size := HD11.out.hk.size
        clear hRD'
        refine pl_one (i := 22) rfl ?_
        refine wpList_append_one (B := w.heap.size) rfl (.tmp 185) (.tmp 206) 52 rfl Try.underlying52 info62' (by kernel_rfl) (by decide) (by decide) rfl HD11.out.own rrCells_len ⟨(kw : Int), (G.length : Int), key, tok, vX⟩ rfl (c := #[.int .i64 (kw : Int), .int .i64 (G.length : Int), .string key, .int .i64 tok, .int .i64 vX.e, .int .i64 vX.i, .bool vX.th, .string vX.tx]) (t' := 62) (f := (0, 0)) ex rfl (rrCells_one _) (by omega) hws HRD'.out ?_
        intro a4 c4 w12 O4 k4
        have HS13 := Lib.hid (show w12.cell? ⟨gb, 0, none⟩ = some (.slice ga G.length gc) ∧ w12.cell? ⟨ob, 3, none⟩ = some (.string key) ∧ w12.cell? ⟨qb, 6, none⟩ = some (.int .i64 tok) from ⟨k4.some HS11.out.1 (fun e => HD11.out.own.ne Hgb11.out (by decide) _ e rfl), k4.some HS11.out.2.1 (fun e => HD11.out.own.ne Hbo11.out (by decide) _ e rfl), k4.some HS11.out.2.2 (fun e => HD11.out.own.ne Hbq11.out (by decide) _ e rfl)⟩)
        have HK := Lib.hid (rk_new HQ.out.1 (kw : Int) tok key hks htl vX (by rw [← HvX.out, vv_atI]) (by rw [← HvX.out]; exact atI_ts (fun y hy => (HD11.out.gk y hy).2)))
        have HSX := Lib.hid (HD11.out.read (by rw [HRD'.out]; exact O4) k4 (Nat.succ_le_succ hRk) hkw rfl (by rw [upd_self]; exact HK.out))
        rw [HRD'.out] at HSX
        clear O4 k4 ex hws HS11 HD11 Hgb11 Hbq11 Hbo11 HK
        refine pl_next (fun _ => HS13.out) ?_
        (try simp only [Act.put, List.getElem_toArray, List.getElem_cons_succ, List.getElem_cons_zero, List.setIfInBounds_toArray, List.set_cons_succ, List.set_cons_zero])
        refine pl_one (i := 23) rfl ?_
        go_wp2_with (fail)
        refine pl_next (fun _ => HS13.out) ?_
        refine pl_done ?_
        clear HS13
        go_wp2_with fail
        (try simp only [Exit.inBlock, Exit.then])
        unfold SwPost
        refine ⟨rfl, ?_⟩
        (repeat apply Exists.intro)
        exact ⟨rfl, HSX.out⟩
      · have d7 : decide (0 < tok) = false := decide_eq_false htok
        go_wp2_with fail
        (try simp only [Exit.inBlock, Exit.then])
        unfold SwPost
        refine ⟨rfl, ?_⟩
        (repeat apply Exists.intro)
        exact ⟨rfl, HD8.out⟩
    · go_wp2_with fail
      refine wp_region_pl (fun u => u.cell? ⟨qb, 0, none⟩ = some (.int .i64 gkd)) [] (.rd 0 (.rd 1 (.rd 2 (.rd 3 (.rd 4 (.rd 5 (.rd 6 (.rd 7 (.rd 8 (.rd 9 (.rd 10 (.rd 11 (.rd 12 (.rd 13 (.rd 14 (.one 15 (.rd 16 (.rd 17 .done)))))))))))))))))) (by kernel_rfl) (by kernel_rfl) (by kernel_rfl) (by kernel_rfl) (by intro c b d v u h; first | (cases d <;> exact h) | exact Exit.noConfusion (And.left h : Exit.panic c = Exit.normal)) ?_
      have kd0 : Keep NoB w6 w6.drew := (Keep.refl NoB w6).drew
      have HS7 := Lib.hid (show w6.drew.cell? ⟨qb, 0, none⟩ = some (.int .i64 gkd) from z0)
      have HD7 := Lib.hid (HS6.out.keep0 kd0)
      have Hbq7 := Lib.hid (blk_keep Hbq.out kd0 (fun h => h))
      have Hbo7 := Lib.hid (blk_keep Hbo6.out kd0 (fun h => h))
      clear kd0 z0 z1 z2 z3 z4 z5 z6 o3 b6 Hbq HS6 Hbo6
      generalize w6.drew = w7 at HS7 HD7 Hbq7 Hbo7 ⊢
      first
        | refine pl_get (i := 0) rfl rfl HS7.out rfl (fun u hu => by (try dsimp only at hu); go_simp; rfl) (by simp only [List.setIfInBounds_toArray, List.set_cons_succ, List.set_cons_zero]; rfl) ?_
        | refine pl_skip (i := 0) rfl rfl HS7.out rfl (by simp only [List.setIfInBounds_toArray, List.set_cons_succ, List.set_cons_zero]; rfl) ?_
      first
        | refine pl_get (i := 1) rfl rfl HS7.out rfl (fun u hu => by (try dsimp only at hu); go_simp; rfl) (by simp only [List.setIfInBounds_toArray, List.set_cons_succ, List.set_cons_zero]; rfl) ?_
        | refine pl_skip (i := 1) rfl rfl HS7.out rfl (by simp only [List.setIfInBounds_toArray, List.set_cons_succ, List.set_cons_zero]; rfl) ?_
      first
        | refine pl_get (i := 2) rfl rfl HS7.out rfl (fun u hu => by (try dsimp only at hu); go_simp; rfl) (by simp only [List.setIfInBounds_toArray, List.set_cons_succ, List.set_cons_zero]; rfl) ?_
        | refine pl_skip (i := 2) rfl rfl HS7.out rfl (by simp only [List.setIfInBounds_toArray, List.set_cons_succ, List.set_cons_zero]; rfl) ?_
      first
        | refine pl_get (i := 3) rfl rfl HS7.out rfl (fun u hu => by (try dsimp only at hu); go_simp; rfl) (by simp only [List.setIfInBounds_toArray, List.set_cons_succ, List.set_cons_zero]; rfl) ?_
        | refine pl_skip (i := 3) rfl rfl HS7.out rfl (by simp only [List.setIfInBounds_toArray, List.set_cons_succ, List.set_cons_zero]; rfl) ?_
      first
        | refine pl_get (i := 4) rfl rfl HS7.out rfl (fun u hu => by (try dsimp only at hu); go_simp; rfl) (by simp only [List.setIfInBounds_toArray, List.set_cons_succ, List.set_cons_zero]; rfl) ?_
        | refine pl_skip (i := 4) rfl rfl HS7.out rfl (by simp only [List.setIfInBounds_toArray, List.set_cons_succ, List.set_cons_zero]; rfl) ?_
      first
        | refine pl_get (i := 5) rfl rfl HS7.out rfl (fun u hu => by (try dsimp only at hu); go_simp; rfl) (by simp only [List.setIfInBounds_toArray, List.set_cons_succ, List.set_cons_zero]; rfl) ?_
        | refine pl_skip (i := 5) rfl rfl HS7.out rfl (by simp only [List.setIfInBounds_toArray, List.set_cons_succ, List.set_cons_zero]; rfl) ?_
      first
        | refine pl_get (i := 6) rfl rfl HS7.out rfl (fun u hu => by (try dsimp only at hu); go_simp; rfl) (by simp only [List.setIfInBounds_toArray, List.set_cons_succ, List.set_cons_zero]; rfl) ?_
        | refine pl_skip (i := 6) rfl rfl HS7.out rfl (by simp only [List.setIfInBounds_toArray, List.set_cons_succ, List.set_cons_zero]; rfl) ?_
      first
        | refine pl_get (i := 7) rfl rfl HS7.out rfl (fun u hu => by (try dsimp only at hu); go_simp; rfl) (by simp only [List.setIfInBounds_toArray, List.set_cons_succ, List.set_cons_zero]; rfl) ?_
        | refine pl_skip (i := 7) rfl rfl HS7.out rfl (by simp only [List.setIfInBounds_toArray, List.set_cons_succ, List.set_cons_zero]; rfl) ?_
      first
        | refine pl_get (i := 8) rfl rfl HS7.out rfl (fun u hu => by (try dsimp only at hu); go_simp; rfl) (by simp only [List.setIfInBounds_toArray, List.set_cons_succ, List.set_cons_zero]; rfl) ?_
        | refine pl_skip (i := 8) rfl rfl HS7.out rfl (by simp only [List.setIfInBounds_toArray, List.set_cons_succ, List.set_cons_zero]; rfl) ?_
      first
        | refine pl_get (i := 9) rfl rfl HS7.out rfl (fun u hu => by (try dsimp only at hu); go_simp; rfl) (by simp only [List.setIfInBounds_toArray, List.set_cons_succ, List.set_cons_zero]; rfl) ?_
        | refine pl_skip (i := 9) rfl rfl HS7.out rfl (by simp only [List.setIfInBounds_toArray, List.set_cons_succ, List.set_cons_zero]; rfl) ?_
      first
        | refine pl_get (i := 10) rfl rfl HS7.out rfl (fun u hu => by (try dsimp only at hu); go_simp; rfl) (by simp only [List.setIfInBounds_toArray, List.set_cons_succ, List.set_cons_zero]; rfl) ?_
        | refine pl_skip (i := 10) rfl rfl HS7.out rfl (by simp only [List.setIfInBounds_toArray, List.set_cons_succ, List.set_cons_zero]; rfl) ?_
      first
        | refine pl_get (i := 11) rfl rfl HS7.out rfl (fun u hu => by (try dsimp only at hu); go_simp; rfl) (by simp only [List.setIfInBounds_toArray, List.set_cons_succ, List.set_cons_zero]; rfl) ?_
        | refine pl_skip (i := 11) rfl rfl HS7.out rfl (by simp only [List.setIfInBounds_toArray, List.set_cons_succ, List.set_cons_zero]; rfl) ?_
      first
        | refine pl_get (i := 12) rfl rfl HS7.out rfl (fun u hu => by (try dsimp only at hu); go_simp; rfl) (by simp only [List.setIfInBounds_toArray, List.set_cons_succ, List.set_cons_zero]; rfl) ?_
        | refine pl_skip (i := 12) rfl rfl HS7.out rfl (by simp only [List.setIfInBounds_toArray, List.set_cons_succ, List.set_cons_zero]; rfl) ?_
      first
        | refine pl_get (i := 13) rfl rfl HS7.out rfl (fun u hu => by (try dsimp only at hu); go_simp; rfl) (by simp only [List.setIfInBounds_toArray, List.set_cons_succ, List.set_cons_zero]; rfl) ?_
        | refine pl_skip (i := 13) rfl rfl HS7.out rfl (by simp only [List.setIfInBounds_toArray, List.set_cons_succ, List.set_cons_zero]; rfl) ?_
      first
        | refine pl_get (i := 14) rfl rfl HS7.out rfl (fun u hu => by (try dsimp only at hu); go_simp; rfl) (by simp only [List.setIfInBounds_toArray, List.set_cons_succ, List.set_cons_zero]; rfl) ?_
        | refine pl_skip (i := 14) rfl rfl HS7.out rfl (by simp only [List.setIfInBounds_toArray, List.set_cons_succ, List.set_cons_zero]; rfl) ?_
      refine pl_one (i := 15) rfl ?_
      go_wp2_with (fail)
      refine pl_next (fun _ => HS7.out) ?_
      first
        | refine pl_get (i := 16) rfl rfl HS7.out rfl (fun u hu => by (try dsimp only at hu); go_simp; rfl) (by simp only [List.setIfInBounds_toArray, List.set_cons_succ, List.set_cons_zero]; rfl) ?_
        | refine pl_skip (i := 16) rfl rfl HS7.out rfl (by simp only [List.setIfInBounds_toArray, List.set_cons_succ, List.set_cons_zero]; rfl) ?_
      first
        | refine pl_get (i := 17) rfl rfl HS7.out rfl (fun u hu => by (try dsimp only at hu); go_simp; rfl) (by simp only [List.setIfInBounds_toArray, List.set_cons_succ, List.set_cons_zero]; rfl) ?_
        | refine pl_skip (i := 17) rfl rfl HS7.out rfl (by simp only [List.setIfInBounds_toArray, List.set_cons_succ, List.set_cons_zero]; rfl) ?_
      refine pl_done ?_
      clear hk0
      have c8 := blk_cell Hbq7.out 6
      simp at c8
      have cl8 := blk_lt Hbq7.out
      by_cases htok : 0 < tok
      · have d7 : decide (0 < tok) = true := decide_eq_true htok
        have htl : tok ≤ s5.last := HQ.out.2.2.2.resolve_left (by omega)
        obtain ⟨ga, gc, hgb, O⟩ := HD7.out.log
        have HO := Lib.hid O
        have Hgb := Lib.hid hgb
        have hGl : G.length ≤ 200 := by have := HD7.out.gl; omega
        have hRl : RD.length ≤ 151 := by have := HD7.out.rl; omega
        clear hgb O
        obtain ⟨vX, hvX⟩ : ∃ v, atI G key G.length = v := ⟨_, rfl⟩
        have HvX := Lib.hid hvX
        clear hvX
        go_wp2_with fail
        refine wp_region_pl (fun u => u.cell? ⟨gb, 0, none⟩ = some (.slice ga G.length gc) ∧ u.cell? ⟨ob, 3, none⟩ = some (.string key) ∧ u.cell? ⟨qb, 6, none⟩ = some (.int .i64 tok)) [] (.rd 0 (.rd 1 (.rd 2 (.rd 3 (.rd 4 (.rd 5 (.rd 6 (.rd 7 (.rd 8 (.rd 9 (.rd 10 (.rd 11 (.rd 12 (.rd 13 (.rd 14 (.rd 15 (.rd 16 (.rd 17 (.rd 18 (.one 19 (.rd 20 (.one 21 (.one 22 (.one 23 .done)))))))))))))))))))))))) (by kernel_rfl) (by kernel_rfl) (by kernel_rfl) (by kernel_rfl) (by intro c b d v u h; first | (cases d <;> exact h) | exact Exit.noConfusion (And.left h : Exit.panic c = Exit.normal)) ?_
        have kd9 : Keep NoB w7 (w7).drew := (Keep.refl NoB _).drew
        have HD9 := Lib.hid (HD7.out.keep0 kd9)
        have Hgb9 := Lib.hid (blk_keep Hgb.out kd9 (fun h => h))
        have HO9 := Lib.hid (HO.out.keep kd9 (fun _ _ h => h))
        have Hbq9 := Lib.hid (blk_keep Hbq7.out kd9 (fun h => h))
        have Hbo9 := Lib.hid (blk_keep Hbo7.out kd9 (fun h => h))
        clear kd9 c8 cl8 HD7 Hbq7 Hbo7 HO Hgb
        generalize (w7).drew = w9 at HD9 Hgb9 HO9 Hbq9 Hbo9 ⊢
        have e0 := blk_cell Hgb9.out 0
        have e3 := blk_cell Hbo9.out 3
        have e6 := blk_cell Hbq9.out 6
        simp at e0 e3 e6
        have HS9 := Lib.hid (show w9.cell? ⟨gb, 0, none⟩ = some (.slice ga G.length gc) ∧ w9.cell? ⟨ob, 3, none⟩ = some (.string key) ∧ w9.cell? ⟨qb, 6, none⟩ = some (.int .i64 tok) from ⟨e0, e3, e6⟩)
        clear e0 e3 e6
        first
          | refine pl_get (i := 0) rfl rfl HS9.out rfl (fun u hu => by (try dsimp only at hu); go_simp; rfl) (by simp only [List.setIfInBounds_toArray, List.set_cons_succ, List.set_cons_zero]; rfl) ?_
          | refine pl_skip (i := 0) rfl rfl HS9.out rfl (by simp only [List.setIfInBounds_toArray, List.set_cons_succ, List.set_cons_zero]; rfl) ?_
        first
          | refine pl_get (i := 1) rfl rfl HS9.out rfl (fun u hu => by (try dsimp only at hu); go_simp; rfl) (by simp only [List.setIfInBounds_toArray, List.set_cons_succ, List.set_cons_zero]; rfl) ?_
          | refine pl_skip (i := 1) rfl rfl HS9.out rfl (by simp only [List.setIfInBounds_toArray, List.set_cons_succ, List.set_cons_zero]; rfl) ?_
        first
          | refine pl_get (i := 2) rfl rfl HS9.out rfl (fun u hu => by (try dsimp only at hu); go_simp; rfl) (by simp only [List.setIfInBounds_toArray, List.set_cons_succ, List.set_cons_zero]; rfl) ?_
          | refine pl_skip (i := 2) rfl rfl HS9.out rfl (by simp only [List.setIfInBounds_toArray, List.set_cons_succ, List.set_cons_zero]; rfl) ?_
        first
          | refine pl_get (i := 3) rfl rfl HS9.out rfl (fun u hu => by (try dsimp only at hu); go_simp; rfl) (by simp only [List.setIfInBounds_toArray, List.set_cons_succ, List.set_cons_zero]; rfl) ?_
          | refine pl_skip (i := 3) rfl rfl HS9.out rfl (by simp only [List.setIfInBounds_toArray, List.set_cons_succ, List.set_cons_zero]; rfl) ?_
        first
          | refine pl_get (i := 4) rfl rfl HS9.out rfl (fun u hu => by (try dsimp only at hu); go_simp; rfl) (by simp only [List.setIfInBounds_toArray, List.set_cons_succ, List.set_cons_zero]; rfl) ?_
          | refine pl_skip (i := 4) rfl rfl HS9.out rfl (by simp only [List.setIfInBounds_toArray, List.set_cons_succ, List.set_cons_zero]; rfl) ?_
        first
          | refine pl_get (i := 5) rfl rfl HS9.out rfl (fun u hu => by (try dsimp only at hu); go_simp; rfl) (by simp only [List.setIfInBounds_toArray, List.set_cons_succ, List.set_cons_zero]; rfl) ?_
          | refine pl_skip (i := 5) rfl rfl HS9.out rfl (by simp only [List.setIfInBounds_toArray, List.set_cons_succ, List.set_cons_zero]; rfl) ?_
        first
          | refine pl_get (i := 6) rfl rfl HS9.out rfl (fun u hu => by (try dsimp only at hu); go_simp; rfl) (by simp only [List.setIfInBounds_toArray, List.set_cons_succ, List.set_cons_zero]; rfl) ?_
          | refine pl_skip (i := 6) rfl rfl HS9.out rfl (by simp only [List.setIfInBounds_toArray, List.set_cons_succ, List.set_cons_zero]; rfl) ?_
        first
          | refine pl_get (i := 7) rfl rfl HS9.out rfl (fun u hu => by (try dsimp only at hu); go_simp; rfl) (by simp only [List.setIfInBounds_toArray, List.set_cons_succ, List.set_cons_zero]; rfl) ?_
          | refine pl_skip (i := 7) rfl rfl HS9.out rfl (by simp only [List.setIfInBounds_toArray, List.set_cons_succ, List.set_cons_zero]; rfl) ?_
        first
          | refine pl_get (i := 8) rfl rfl HS9.out rfl (fun u hu => by (try dsimp only at hu); go_simp; rfl) (by simp only [List.setIfInBounds_toArray, List.set_cons_succ, List.set_cons_zero]; rfl) ?_
          | refine pl_skip (i := 8) rfl rfl HS9.out rfl (by simp only [List.setIfInBounds_toArray, List.set_cons_succ, List.set_cons_zero]; rfl) ?_
        first
          | refine pl_get (i := 9) rfl rfl HS9.out rfl (fun u hu => by (try dsimp only at hu); go_simp; rfl) (by simp only [List.setIfInBounds_toArray, List.set_cons_succ, List.set_cons_zero]; rfl) ?_
          | refine pl_skip (i := 9) rfl rfl HS9.out rfl (by simp only [List.setIfInBounds_toArray, List.set_cons_succ, List.set_cons_zero]; rfl) ?_
        first
          | refine pl_get (i := 10) rfl rfl HS9.out rfl (fun u hu => by (try dsimp only at hu); go_simp; rfl) (by simp only [List.setIfInBounds_toArray, List.set_cons_succ, List.set_cons_zero]; rfl) ?_
          | refine pl_skip (i := 10) rfl rfl HS9.out rfl (by simp only [List.setIfInBounds_toArray, List.set_cons_succ, List.set_cons_zero]; rfl) ?_
        first
          | refine pl_get (i := 11) rfl rfl HS9.out rfl (fun u hu => by (try dsimp only at hu); go_simp; rfl) (by simp only [List.setIfInBounds_toArray, List.set_cons_succ, List.set_cons_zero]; rfl) ?_
          | refine pl_skip (i := 11) rfl rfl HS9.out rfl (by simp only [List.setIfInBounds_toArray, List.set_cons_succ, List.set_cons_zero]; rfl) ?_
        first
          | refine pl_get (i := 12) rfl rfl HS9.out rfl (fun u hu => by (try dsimp only at hu); go_simp; rfl) (by simp only [List.setIfInBounds_toArray, List.set_cons_succ, List.set_cons_zero]; rfl) ?_
          | refine pl_skip (i := 12) rfl rfl HS9.out rfl (by simp only [List.setIfInBounds_toArray, List.set_cons_succ, List.set_cons_zero]; rfl) ?_
        first
          | refine pl_get (i := 13) rfl rfl HS9.out rfl (fun u hu => by (try dsimp only at hu); go_simp; rfl) (by simp only [List.setIfInBounds_toArray, List.set_cons_succ, List.set_cons_zero]; rfl) ?_
          | refine pl_skip (i := 13) rfl rfl HS9.out rfl (by simp only [List.setIfInBounds_toArray, List.set_cons_succ, List.set_cons_zero]; rfl) ?_
        first
          | refine pl_get (i := 14) rfl rfl HS9.out rfl (fun u hu => by (try dsimp only at hu); go_simp; rfl) (by simp only [List.setIfInBounds_toArray, List.set_cons_succ, List.set_cons_zero]; rfl) ?_
          | refine pl_skip (i := 14) rfl rfl HS9.out rfl (by simp only [List.setIfInBounds_toArray, List.set_cons_succ, List.set_cons_zero]; rfl) ?_
        first
          | refine pl_get (i := 15) rfl rfl HS9.out rfl (fun u hu => by (try dsimp only at hu); go_simp; rfl) (by simp only [List.setIfInBounds_toArray, List.set_cons_succ, List.set_cons_zero]; rfl) ?_
          | refine pl_skip (i := 15) rfl rfl HS9.out rfl (by simp only [List.setIfInBounds_toArray, List.set_cons_succ, List.set_cons_zero]; rfl) ?_
        first
          | refine pl_get (i := 16) rfl rfl HS9.out rfl (fun u hu => by (try dsimp only at hu); go_simp; rfl) (by simp only [List.setIfInBounds_toArray, List.set_cons_succ, List.set_cons_zero]; rfl) ?_
          | refine pl_skip (i := 16) rfl rfl HS9.out rfl (by simp only [List.setIfInBounds_toArray, List.set_cons_succ, List.set_cons_zero]; rfl) ?_
        first
          | refine pl_get (i := 17) rfl rfl HS9.out rfl (fun u hu => by (try dsimp only at hu); go_simp; rfl) (by simp only [List.setIfInBounds_toArray, List.set_cons_succ, List.set_cons_zero]; rfl) ?_
          | refine pl_skip (i := 17) rfl rfl HS9.out rfl (by simp only [List.setIfInBounds_toArray, List.set_cons_succ, List.set_cons_zero]; rfl) ?_
        first
          | refine pl_get (i := 18) rfl rfl HS9.out rfl (fun u hu => by (try dsimp only at hu); go_simp; rfl) (by simp only [List.setIfInBounds_toArray, List.set_cons_succ, List.set_cons_zero]; rfl) ?_
          | refine pl_skip (i := 18) rfl rfl HS9.out rfl (by simp only [List.setIfInBounds_toArray, List.set_cons_succ, List.set_cons_zero]; rfl) ?_
        refine pl_one (i := 19) rfl ?_
        go_wp2_with ((go_at_call 18; refine (at_any _ w.heap.size gb ga gc G key G.length Hgb9.out HO9.out (by omega) vX HvX.out).mono ?_; rintro _ w10 ⟨rfl, k10⟩))
        have kx := k10.alloc (.cells #[.int .i64 (kw : Int), .int .i64 (G.length : Int), .string key, .int .i64 tok, .int .i64 vX.e, .int .i64 vX.i, .bool vX.th, .string vX.tx] 62)
        have HS10 := Lib.hid (show w10.cell? ⟨gb, 0, none⟩ = some (.slice ga G.length gc) ∧ w10.cell? ⟨ob, 3, none⟩ = some (.string key) ∧ w10.cell? ⟨qb, 6, none⟩ = some (.int .i64 tok) from ⟨k10.some HS9.out.1 (fun h => h), k10.some HS9.out.2.1 (fun h => h), k10.some HS9.out.2.2 (fun h => h)⟩)
        have HS11 := Lib.hid (show (w10.alloc (.cells #[.int .i64 (kw : Int), .int .i64 (G.length : Int), .string key, .int .i64 tok, .int .i64 vX.e, .int .i64 vX.i, .bool vX.th, .string vX.tx] 62)).cell? ⟨gb, 0, none⟩ = some (.slice ga G.length gc) ∧ (w10.alloc (.cells #[.int .i64 (kw : Int), .int .i64 (G.length : Int), .string key, .int .i64 tok, .int .i64 vX.e, .int .i64 vX.i, .bool vX.th, .string vX.tx] 62)).cell? ⟨ob, 3, none⟩ = some (.string key) ∧ (w10.alloc (.cells #[.int .i64 (kw : Int), .int .i64 (G.length : Int), .string key, .int .i64 tok, .int .i64 vX.e, .int .i64 vX.i, .bool vX.th, .string vX.tx] 62)).cell? ⟨qb, 6, none⟩ = some (.int .i64 tok) from ⟨kx.some HS9.out.1 (fun h => h), kx.some HS9.out.2.1 (fun h => h), kx.some HS9.out.2.2 (fun h => h)⟩)
        have HD11 := Lib.hid (HD9.out.keep0 kx)
        have Hgb11 := Lib.hid (blk_keep Hgb9.out kx (fun h => h))
        have Hbq11 := Lib.hid (blk_keep Hbq9.out kx (fun h => h))
        have Hbo11 := Lib.hid (blk_keep Hbo9.out kx (fun h => h))
        have ex := blk_new w10 (.cells #[.int .i64 (kw : Int), .int .i64 (G.length : Int), .string key, .int .i64 tok, .int .i64 vX.e, .int .i64 vX.i, .bool vX.th, .string vX.tx] 62)
        clear k10 kx HD9 Hgb9 HO9 Hbq9 Hbo9 HS9
        refine pl_next (fun _ => HS10.out) ?_
        refine pl_get (i := 20) rfl rfl HS10.out rfl (fun u _ => exec_bd rfl rfl ((fun u => bd62 u (kw : Int) (G.length : Int) tok vX.e vX.i vX.th key vX.tx) u)) (by simp only [List.setIfInBounds_toArray, List.set_cons_succ, List.set_cons_zero]; rfl) ?_
        refine pl_act (i := 21) rfl rfl rfl (exec_bs rfl rfl (bs62 w10 (kw : Int) (G.length : Int) tok vX.e vX.i vX.th key vX.tx)) (by simp only [List.setIfInBounds_toArray, List.set_cons_succ, List.set_cons_zero]; rfl) ?_
        refine pl_next (fun _ => HS11.out) ?_
        clear HS10
        generalize w10.alloc (.cells #[.int .i64 (kw : Int), .int .i64 (G.length : Int), .string key, .int .i64 tok, .int .i64 vX.e, .int .i64 vX.i, .bool vX.th, .string vX.tx] 62) = w11 at HS11 HD11 Hgb11 Hbq11 Hbo11 ex ⊢
        generalize w10.heap.size = xb at ex ⊢
        obtain ⟨RD', hRD'⟩ : ∃ l, RD ++ [(⟨(kw : Int), (G.length : Int), key, tok, vX⟩ : RR)] = l := ⟨_, rfl⟩
        have HRD' := Lib.hid hRD'
        have hws : w.heap.size ≤ w11.heap.size := HD11.out.hk.size
        clear hRD'
        refine pl_one (i := 22) rfl ?_
        refine wpList_append_one (B := w.heap.size) rfl (.tmp 185) (.tmp 206) 52 rfl Try.underlying52 info62' (by kernel_rfl) (by decide) (by decide) rfl HD11.out.own rrCells_len ⟨(kw : Int), (G.length : Int), key, tok, vX⟩ rfl (c := #[.int .i64 (kw : Int), .int .i64 (G.length : Int), .string key, .int .i64 tok, .int .i64 vX.e, .int .i64 vX.i, .bool vX.th, .string vX.tx]) (t' := 62) (f := (0, 0)) ex rfl (rrCells_one _) (by omega) hws HRD'.out ?_
        intro a4 c4 w12 O4 k4
        have HS13 := Lib.hid (show w12.cell? ⟨gb, 0, none⟩ = some (.slice ga G.length gc) ∧ w12.cell? ⟨ob, 3, none⟩ = some (.string key) ∧ w12.cell? ⟨qb, 6, none⟩ = some (.int .i64 tok) from ⟨k4.some HS11.out.1 (fun e => HD11.out.own.ne Hgb11.out (by decide) _ e rfl), k4.some HS11.out.2.1 (fun e => HD11.out.own.ne Hbo11.out (by decide) _ e rfl), k4.some HS11.out.2.2 (fun e => HD11.out.own.ne Hbq11.out (by decide) _ e rfl)⟩)
        have HK := Lib.hid (rk_new HQ.out.1 (kw : Int) tok key hks htl vX (by rw [← HvX.out, vv_atI]) (by rw [← HvX.out]; exact atI_ts (fun y hy => (HD11.out.gk y hy).2)))
        have HSX := Lib.hid (HD11.out.read (by rw [HRD'.out]; exact O4) k4 (Nat.succ_le_succ hRk) hkw rfl (by rw [upd_self]; exact HK.out))
        rw [HRD'.out] at HSX
        clear O4 k4 ex hws HS11 HD11 Hgb11 Hbq11 Hbo11 HK
        refine pl_next (fun _ => HS13.out) ?_
        (try simp only [Act.put, List.getElem_toArray, List.getElem_cons_succ, List.getElem_cons_zero, List.setIfInBounds_toArray, List.set_cons_succ, List.set_cons_zero])
        refine pl_one (i := 23) rfl ?_
        go_wp2_with (fail)
        refine pl_next (fun _ => HS13.out) ?_
        refine pl_done ?_
        clear HS13
        go_wp2_with fail
        (try simp only [Exit.inBlock, Exit.then])
        unfold SwPost
        refine ⟨rfl, ?_⟩
        (repeat apply Exists.intro)
        exact ⟨rfl, HSX.out⟩
      · have d7 : decide (0 < tok) = false := decide_eq_false htok
        go_wp2_with fail
        (try simp only [Exit.inBlock, Exit.then])
        unfold SwPost
        refine ⟨rfl, ?_⟩
        (repeat apply Exists.intro)
        exact ⟨rfl, HD7.out⟩
  · go_wp2_with fail
    have kz := (Keep.refl NoB V1).alloc (.cells #[.int .i64 0, .int .i64 0, .int .i64 0, .bool false, .string ⟨#[]⟩, .int .i64 0, .int .i64 0] 31)
    have HD2 := Lib.hid (HD1.out.keep0 kz)
    have bz := blk_new V1 (.cells #[.int .i64 0, .int .i64 0, .int .i64 0, .bool false, .string ⟨#[]⟩, .int .i64 0, .int .i64 0] 31)
    have hzw : w.heap.size ≤ V1.heap.size := HD1.out.hk.size
    have bo2 := blk_keep Hb1.out kz (fun h => h)
    refine pl_next (fun _ => ⟨kz.some HS1.out.1 (fun h => h), kz.some HS1.out.2 (fun h => h)⟩) ?_
    clear kz HS1 HD1 Hb1
    refine pl_one (i := 5) rfl ?_
    go_wp2_with ((go_at_call 8; refine (get_any _ (b kw) (s kw) s5 (HD2.out.nl kw hkw).D key hkm (by have := (HD2.out.nn kw hkw).llen; unfold maxLen; omega) (HD2.out.nn kw hkw).l0 (by have := (HD2.out.nn kw hkw).l1; omega) (ansV gkd xv tok) HG5.out).mono ?_; rintro _ w5 ⟨rfl, P5⟩; simp only [ansV]))
    have HS5 := Lib.hid (HD2.out.op4 hkw P5 HQ.out.1 (Nat.le_succ k) HQ.out.2.1 HQ.out.2.2.1)
    have bz5 := P5.blk bz (HD2.out.nl kw hkw).D (by decide) (by decide) (by decide) (by decide) (by decide) (by decide)
    have bo5 := P5.blk bo2 (HD2.out.nl kw hkw).D (by decide) (by decide) (by decide) (by decide) (by decide) (by decide)
    obtain ⟨qb, hqb⟩ : ∃ q, V1.heap.size = q := ⟨_, rfl⟩
    rw [hqb] at bz5 hzw ⊢
    have Hbz5 := Lib.hid bz5
    have Hbo5 := Lib.hid bo5
    have o5 := blk_cell bo5 3
    simp at o5
    clear P5 HD2 bz bo2 hqb bo5
    refine pl_next (fun _ => ⟨node_cell HS5.out hkw, o5⟩) ?_
    clear o5
    have q0 := blk_cell bz5 0
    have q1 := blk_cell bz5 1
    have q2 := blk_cell bz5 2
    have q3 := blk_cell bz5 3
    have q4 := blk_cell bz5 4
    have q5 := blk_cell bz5 5
    have q6 := blk_cell bz5 6
    have g0 := blk_free bz5 0
    have g1 := blk_free bz5 1
    have g2 := blk_free bz5 2
    have g3 := blk_free bz5 3
    have g4 := blk_free bz5 4
    have g5 := blk_free bz5 5
    have g6 := blk_free bz5 6
    have ql := blk_lt bz5
    simp at q0 q1 q2 q3 q4 q5 q6
    clear bz5
    refine pl_one (i := 7) rfl ?_
    go_wp2_with (fail)
    have y7 := blk_setCell (i := 6) (blk_setCell (i := 5) (blk_setCell (i := 4) (blk_setCell (i := 3) (blk_setCell (i := 2) (blk_setCell (i := 1) (blk_setCell (i := 0) (Hbz5.out) (.int .i64 gkd)) (.int .i64 xv.e)) (.int .i64 xv.i)) (.bool xv.th)) (.string xv.tx)) (.int .i64 xv.a)) (.int .i64 tok)
    have K7 := ((((((Keep.refl (OneB qb) w5).setCell (p := ⟨qb, 0, none⟩) (Or.inr rfl) (.int .i64 gkd)).setCell (p := ⟨qb, 1, none⟩) (Or.inr rfl) (.int .i64 xv.e)).setCell (p := ⟨qb, 2, none⟩) (Or.inr rfl) (.int .i64 xv.i)).setCell (p := ⟨qb, 3, none⟩) (Or.inr rfl) (.bool xv.th)).setCell (p := ⟨qb, 4, none⟩) (Or.inr rfl) (.string xv.tx)).setCell (p := ⟨qb, 5, none⟩) (Or.inr rfl) (.int .i64 xv.a) |>.setCell (p := ⟨qb, 6, none⟩) (Or.inr rfl) (.int .i64 tok)
    generalize World.setCell _ _ _ = w6 at y7 K7 ⊢
    have hne : ob ≠ qb := sh_ne ⟨_, _, Hbo5.out⟩ ⟨_, _, Hbz5.out⟩ (by decide)
    have Hbq := Lib.hid y7
    have HS6 := Lib.hid (HS5.out.keepB K7 ⟨_, _, Hbz5.out⟩ (by decide) hzw)
    have Hbo6 := Lib.hid (blk_keep Hbo5.out K7 (fun e => hne e))
    clear y7 K7 HS5 Hbo5 Hbz5 hne q0 q1 q2 q3 q4 q5 q6 g0 g1 g2 g3 g4 g5 g6 ql
    refine pl_next (fun h => by cases h) ?_
    refine pl_done ?_
    have b6 := Hbq.out
    have z0 := blk_cell b6 0
    have z1 := blk_cell b6 1
    have z2 := blk_cell b6 2
    have z3 := blk_cell b6 3
    have z4 := blk_cell b6 4
    have z5 := blk_cell b6 5
    have z6 := blk_cell b6 6
    have o3 := blk_cell Hbo6.out 3
    simp at z0 z1 z2 z3 z4 z5 z6 o3
    rcases Hkd5.out with ⟨rfl, av, hav, hav2, hav3⟩ | hk0
    · obtain ⟨mx, hmx⟩ : ∃ n, max av (W kw) = n := ⟨_, rfl⟩
      have hmi : (if av < W kw then ((W kw : Nat) : Int) else ((av : Nat) : Int)) = (mx : Int) := by split <;> omega
      rw [hmx] at hav3
      have Hav3 := Lib.hid hav3
      clear hmx hav3
      go_wp2_with fail
      refine wp_region_pl (fun u => u.cell? ⟨qb, 0, none⟩ = some (.int .i64 1) ∧ u.cell? ⟨qb, 1, none⟩ = some (.int .i64 xv.e) ∧ u.cell? ⟨qb, 2, none⟩ = some (.int .i64 xv.i) ∧ u.cell? ⟨qb, 3, none⟩ = some (.bool xv.th) ∧ u.cell? ⟨qb, 4, none⟩ = some (.string xv.tx) ∧ u.cell? ⟨qb, 5, none⟩ = some (.int .i64 xv.a) ∧ u.cell? ⟨ob, 3, none⟩ = some (.string key) ∧ u.cell? ⟨wb, kw, none⟩ = some (.int .i64 (W kw : Int))) [] (.rd 0 (.rd 1 (.rd 2 (.rd 3 (.rd 4 (.rd 5 (.rd 6 (.rd 7 (.rd 8 (.rd 9 (.rd 10 (.rd 11 (.rd 12 (.rd 13 (.rd 14 (.one 15 (.rd 16 (.rd 17 .done)))))))))))))))))) (by kernel_rfl) (by kernel_rfl) (by kernel_rfl) (by kernel_rfl) (by intro c b d v u h; first | (cases d <;> exact h) | exact Exit.noConfusion (And.left h : Exit.panic c = Exit.normal)) ?_
      have kd0 : Keep NoB w6 w6.drew := (Keep.refl NoB w6).drew
      have p0 := place_cell HS6.out hkw
      have HS7 := Lib.hid (show w6.drew.cell? ⟨qb, 0, none⟩ = some (.int .i64 1) ∧ w6.drew.cell? ⟨qb, 1, none⟩ = some (.int .i64 xv.e) ∧ w6.drew.cell? ⟨qb, 2, none⟩ = some (.int .i64 xv.i) ∧ w6.drew.cell? ⟨qb, 3, none⟩ = some (.bool xv.th) ∧ w6.drew.cell? ⟨qb, 4, none⟩ = some (.string xv.tx) ∧ w6.drew.cell? ⟨qb, 5, none⟩ = some (.int .i64 xv.a) ∧ w6.drew.cell? ⟨ob, 3, none⟩ = some (.string key) ∧ w6.drew.cell? ⟨wb, kw, none⟩ = some (.int .i64 (W kw : Int)) from ⟨z0, z1, z2, z3, z4, z5, o3, p0⟩)
      have HD7 := Lib.hid (HS6.out.keep0 kd0)
      have Hbq7 := Lib.hid (blk_keep Hbq.out kd0 (fun h => h))
      have Hbo7 := Lib.hid (blk_keep Hbo6.out kd0 (fun h => h))
      clear kd0 z0 z1 z2 z3 z4 z5 z6 o3 p0 b6 Hbq HS6 Hbo6
      generalize w6.drew = w7 at HS7 HD7 Hbq7 Hbo7 ⊢
      first
        | refine pl_get (i := 0) rfl rfl HS7.out rfl (fun u hu => by (try dsimp only at hu); go_simp; rfl) (by simp only [List.setIfInBounds_toArray, List.set_cons_succ, List.set_cons_zero]; rfl) ?_
        | refine pl_skip (i := 0) rfl rfl HS7.out rfl (by simp only [List.setIfInBounds_toArray, List.set_cons_succ, List.set_cons_zero]; rfl) ?_
      first
        | refine pl_get (i := 1) rfl rfl HS7.out rfl (fun u hu => by (try dsimp only at hu); go_simp; rfl) (by simp only [List.setIfInBounds_toArray, List.set_cons_succ, List.set_cons_zero]; rfl) ?_
        | refine pl_skip (i := 1) rfl rfl HS7.out rfl (by simp only [List.setIfInBounds_toArray, List.set_cons_succ, List.set_cons_zero]; rfl) ?_
      first
        | refine pl_get (i := 2) rfl rfl HS7.out rfl (fun u hu => by (try dsimp only at hu); go_simp; rfl) (by simp only [List.setIfInBounds_toArray, List.set_cons_succ, List.set_cons_zero]; rfl) ?_
        | refine pl_skip (i := 2) rfl rfl HS7.out rfl (by simp only [List.setIfInBounds_toArray, List.set_cons_succ, List.set_cons_zero]; rfl) ?_
      first
        | refine pl_get (i := 3) rfl rfl HS7.out rfl (fun u hu => by (try dsimp only at hu); go_simp; rfl) (by simp only [List.setIfInBounds_toArray, List.set_cons_succ, List.set_cons_zero]; rfl) ?_
        | refine pl_skip (i := 3) rfl rfl HS7.out rfl (by simp only [List.setIfInBounds_toArray, List.set_cons_succ, List.set_cons_zero]; rfl) ?_
      first
        | refine pl_get (i := 4) rfl rfl HS7.out rfl (fun u hu => by (try dsimp only at hu); go_simp; rfl) (by simp only [List.setIfInBounds_toArray, List.set_cons_succ, List.set_cons_zero]; rfl) ?_
        | refine pl_skip (i := 4) rfl rfl HS7.out rfl (by simp only [List.setIfInBounds_toArray, List.set_cons_succ, List.set_cons_zero]; rfl) ?_
      first
        | refine pl_get (i := 5) rfl rfl HS7.out rfl (fun u hu => by (try dsimp only at hu); go_simp; rfl) (by simp only [List.setIfInBounds_toArray, List.set_cons_succ, List.set_cons_zero]; rfl) ?_
        | refine pl_skip (i := 5) rfl rfl HS7.out rfl (by simp only [List.setIfInBounds_toArray, List.set_cons_succ, List.set_cons_zero]; rfl) ?_
      first
        | refine pl_get (i := 6) rfl rfl HS7.out rfl (fun u hu => by (try dsimp only at hu); go_simp; rfl) (by simp only [List.setIfInBounds_toArray, List.set_cons_succ, List.set_cons_zero]; rfl) ?_
        | refine pl_skip (i := 6) rfl rfl HS7.out rfl (by simp only [List.setIfInBounds_toArray, List.set_cons_succ, List.set_cons_zero]; rfl) ?_
      first
        | refine pl_get (i := 7) rfl rfl HS7.out rfl (fun u hu => by (try dsimp only at hu); go_simp; rfl) (by simp only [List.setIfInBounds_toArray, List.set_cons_succ, List.set_cons_zero]; rfl) ?_
        | refine pl_skip (i := 7) rfl rfl HS7.out rfl (by simp only [List.setIfInBounds_toArray, List.set_cons_succ, List.set_cons_zero]; rfl) ?_
      first
        | refine pl_get (i := 8) rfl rfl HS7.out rfl (fun u hu => by (try dsimp only at hu); go_simp; rfl) (by simp only [List.setIfInBounds_toArray, List.set_cons_succ, List.set_cons_zero]; rfl) ?_
        | refine pl_skip (i := 8) rfl rfl HS7.out rfl (by simp only [List.setIfInBounds_toArray, List.set_cons_succ, List.set_cons_zero]; rfl) ?_
      first
        | refine pl_get (i := 9) rfl rfl HS7.out rfl (fun u hu => by (try dsimp only at hu); go_simp; rfl) (by simp only [List.setIfInBounds_toArray, List.set_cons_succ, List.set_cons_zero]; rfl) ?_
        | refine pl_skip (i := 9) rfl rfl HS7.out rfl (by simp only [List.setIfInBounds_toArray, List.set_cons_succ, List.set_cons_zero]; rfl) ?_
      first
        | refine pl_get (i := 10) rfl rfl HS7.out rfl (fun u hu => by (try dsimp only at hu); go_simp; rfl) (by simp only [List.setIfInBounds_toArray, List.set_cons_succ, List.set_cons_zero]; rfl) ?_
        | refine pl_skip (i := 10) rfl rfl HS7.out rfl (by simp only [List.setIfInBounds_toArray, List.set_cons_succ, List.set_cons_zero]; rfl) ?_
      first
        | refine pl_get (i := 11) rfl rfl HS7.out rfl (fun u hu => by (try dsimp only at hu); go_simp; rfl) (by simp only [List.setIfInBounds_toArray, List.set_cons_succ, List.set_cons_zero]; rfl) ?_
        | refine pl_skip (i := 11) rfl rfl HS7.out rfl (by simp only [List.setIfInBounds_toArray, List.set_cons_succ, List.set_cons_zero]; rfl) ?_
      first
        | refine pl_get (i := 12) rfl rfl HS7.out rfl (fun u hu => by (try dsimp only at hu); go_simp; rfl) (by simp only [List.setIfInBounds_toArray, List.set_cons_succ, List.set_cons_zero]; rfl) ?_
        | refine pl_skip (i := 12) rfl rfl HS7.out rfl (by simp only [List.setIfInBounds_toArray, List.set_cons_succ, List.set_cons_zero]; rfl) ?_
      first
        | refine pl_get (i := 13) rfl rfl HS7.out rfl (fun u hu => by (try dsimp only at hu); go_simp; rfl) (by simp only [List.setIfInBounds_toArray, List.set_cons_succ, List.set_cons_zero]; rfl) ?_
        | refine pl_skip (i := 13) rfl rfl HS7.out rfl (by simp only [List.setIfInBounds_toArray, List.set_cons_succ, List.set_cons_zero]; rfl) ?_
      first
        | refine pl_get (i := 14) rfl rfl HS7.out rfl (fun u hu => by (try dsimp only at hu); go_simp; rfl) (by simp only [List.setIfInBounds_toArray, List.set_cons_succ, List.set_cons_zero]; rfl) ?_
        | refine pl_skip (i := 14) rfl rfl HS7.out rfl (by simp only [List.setIfInBounds_toArray, List.set_cons_succ, List.set_cons_zero]; rfl) ?_
      obtain ⟨ga, gc, hgb, O⟩ := HD7.out.log
      have hGl : G.length ≤ 200 := by have := HD7.out.gl; omega
      refine pl_one (i := 15) rfl ?_
      go_wp2_with ((go_at_call 18; refine (at_any _ w.heap.size gb ga gc G key mx hgb O (by omega) ⟨xv.e, xv.i, xv.th, xv.tx, 0⟩ Hav3.out.symm).mono ?_; rintro _ w8 ⟨rfl, k8⟩; simp only []))
      have HD8 := Lib.hid (HD7.out.keep0 k8)
      have Hbq8 := Lib.hid (blk_keep Hbq7.out k8 (fun h => h))
      have Hbo8 := Lib.hid (blk_keep Hbo7.out k8 (fun h => h))
      have b8 := Hbq8.out
      have HS8 := Lib.hid (show w8.cell? ⟨qb, 0, none⟩ = some (.int .i64 1) ∧ w8.cell? ⟨qb, 1, none⟩ = some (.int .i64 xv.e) ∧ w8.cell? ⟨qb, 2, none⟩ = some (.int .i64 xv.i) ∧ w8.cell? ⟨qb, 3, none⟩ = some (.bool xv.th) ∧ w8.cell? ⟨qb, 4, none⟩ = some (.string xv.tx) ∧ w8.cell? ⟨qb, 5, none⟩ = some (.int .i64 xv.a) ∧ w8.cell? ⟨ob, 3, none⟩ = some (.string key) ∧ w8.cell? ⟨wb, kw, none⟩ = some (.int .i64 (W kw : Int)) from ⟨k8.some HS7.out.1 (fun h => h), k8.some HS7.out.2.1 (fun h => h), k8.some HS7.out.2.2.1 (fun h => h), k8.some HS7.out.2.2.2.1 (fun h => h), k8.some HS7.out.2.2.2.2.1 (fun h => h), k8.some HS7.out.2.2.2.2.2.1 (fun h => h), k8.some HS7.out.2.2.2.2.2.2.1 (fun h => h), k8.some HS7.out.2.2.2.2.2.2.2 (fun h => h)⟩)
      clear k8 hgb O HS7 HD7 Hbq7 Hbo7
      refine pl_next (fun _ => HS8.out) ?_
      first
        | refine pl_get (i := 16) rfl rfl HS8.out rfl (fun u hu => by (try dsimp only at hu); go_simp; rfl) (by simp only [List.setIfInBounds_toArray, List.set_cons_succ, List.set_cons_zero]; rfl) ?_
        | refine pl_skip (i := 16) rfl rfl HS8.out rfl (by simp only [List.setIfInBounds_toArray, List.set_cons_succ, List.set_cons_zero]; rfl) ?_
      first
        | refine pl_get (i := 17) rfl rfl HS8.out rfl (fun u hu => by (try dsimp only at hu); go_simp; rfl) (by simp only [List.setIfInBounds_toArray, List.set_cons_succ, List.set_cons_zero]; rfl) ?_
        | refine pl_skip (i := 17) rfl rfl HS8.out rfl (by simp only [List.setIfInBounds_toArray, List.set_cons_succ, List.set_cons_zero]; rfl) ?_
      refine pl_done ?_
      clear hmi hav hav2
      have c8 := blk_cell Hbq8.out 6
      simp at c8
      have cl8 := blk_lt Hbq8.out
      by_cases htok : 0 < tok
      · have d7 : decide (0 < tok) = true := decide_eq_true htok
        have htl : tok ≤ s5.last := HQ.out.2.2.2.resolve_left (by omega)
        obtain ⟨ga, gc, hgb, O⟩ := HD8.out.log
        have HO := Lib.hid O
        have Hgb := Lib.hid hgb
        have hGl : G.length ≤ 200 := by have := HD8.out.gl; omega
        have hRl : RD.length ≤ 151 := by have := HD8.out.rl; omega
        clear hgb O
        obtain ⟨vX, hvX⟩ : ∃ v, atI G key G.length = v := ⟨_, rfl⟩
        have HvX := Lib.hid hvX
        clear hvX
        go_wp2_with fail
        refine wp_region_pl (fun u => u.cell? ⟨gb, 0, none⟩ = some (.slice ga G.length gc) ∧ u.cell? ⟨ob, 3, none⟩ = some (.string key) ∧ u.cell? ⟨qb, 6, none⟩ = some (.int .i64 tok)) [] (.rd 0 (.rd 1 (.rd 2 (.rd 3 (.rd 4 (.rd 5 (.rd 6 (.rd 7 (.rd 8 (.rd 9 (.rd 10 (.rd 11 (.rd 12 (.rd 13 (.rd 14 (.rd 15 (.rd 16 (.rd 17 (.rd 18 (.one 19 (.rd 20 (.one 21 (.one 22 (.one 23 .done)))))))))))))))))))))))) (by kernel_rfl) (by kernel_rfl) (by kernel_rfl) (by kernel_rfl) (by intro c b d v u h; first | (cases d <;> exact h) | exact Exit.noConfusion (And.left h : Exit.panic c = Exit.normal)) ?_
        have kd9 : Keep NoB w8 (w8).drew := (Keep.refl NoB _).drew
        have HD9 := Lib.hid (HD8.out.keep0 kd9)
        have Hgb9 := Lib.hid (blk_keep Hgb.out kd9 (fun h => h))
        have HO9 := Lib.hid (HO.out.keep kd9 (fun _ _ h => h))
        have Hbq9 := Lib.hid (blk_keep Hbq8.out kd9 (fun h => h))
        have Hbo9 := Lib.hid (blk_keep Hbo8.out kd9 (fun h => h))
        clear kd9 c8 cl8 HD8 Hbq8 Hbo8 HO Hgb
        generalize (w8).drew = w9 at HD9 Hgb9 HO9 Hbq9 Hbo9 ⊢
        have e0 := blk_cell Hgb9.out 0
        have e3 := blk_cell Hbo9.out 3
        have e6 := blk_cell Hbq9.out 6
        simp at e0 e3 e6
        have HS9 := Lib.hid (show w9.cell? ⟨gb, 0, none⟩ = some (.slice ga G.length gc) ∧ w9.cell? ⟨ob, 3, none⟩ = some (.string key) ∧ w9.cell? ⟨qb, 6, none⟩ = some (.int .i64 tok) from ⟨e0, e3, e6⟩)
        clear e0 e3 e6
        first
          | refine pl_get (i := 0) rfl rfl HS9.out rfl (fun u hu => by (try dsimp only at hu); go_simp; rfl) (by simp only [List.setIfInBounds_toArray, List.set_cons_succ, List.set_cons_zero]; rfl) ?_
          | refine pl_skip (i := 0) rfl rfl HS9.out rfl (by simp only [List.setIfInBounds_toArray, List.set_cons_succ, List.set_cons_zero]; rfl) ?_
        first
          | refine pl_get (i := 1) rfl rfl HS9.out rfl (fun u hu => by (try dsimp only at hu); go_simp; rfl) (by simp only [List.setIfInBounds_toArray, List.set_cons_succ, List.set_cons_zero]; rfl) ?_
          | refine pl_skip (i := 1) rfl rfl HS9.out rfl (by simp only [List.setIfInBounds_toArray, List.set_cons_succ, List.set_cons_zero]; rfl) ?_
        first
          | refine pl_get (i := 2) rfl rfl HS9.out rfl (fun u hu => by (try dsimp only at hu); go_simp; rfl) (by simp only [List.setIfInBounds_toArray, List.set_cons_succ, List.set_cons_zero]; rfl) ?_
          | refine pl_skip (i := 2) rfl rfl HS9.out rfl (by simp only [List.setIfInBounds_toArray, List.set_cons_succ, List.set_cons_zero]; rfl) ?_
        first
          | refine pl_get (i := 3) rfl rfl HS9.out rfl (fun u hu => by (try dsimp only at hu); go_simp; rfl) (by simp only [List.setIfInBounds_toArray, List.set_cons_succ, List.set_cons_zero]; rfl) ?_
          | refine pl_skip (i := 3) rfl rfl HS9.out rfl (by simp only [List.setIfInBounds_toArray, List.set_cons_succ, List.set_cons_zero]; rfl) ?_
        first
          | refine pl_get (i := 4) rfl rfl HS9.out rfl (fun u hu => by (try dsimp only at hu); go_simp; rfl) (by simp only [List.setIfInBounds_toArray, List.set_cons_succ, List.set_cons_zero]; rfl) ?_
          | refine pl_skip (i := 4) rfl rfl HS9.out rfl (by simp only [List.setIfInBounds_toArray, List.set_cons_succ, List.set_cons_zero]; rfl) ?_
        first
          | refine pl_get (i := 5) rfl rfl HS9.out rfl (fun u hu => by (try dsimp only at hu); go_simp; rfl) (by simp only [List.setIfInBounds_toArray, List.set_cons_succ, List.set_cons_zero]; rfl) ?_
          | refine pl_skip (i := 5) rfl rfl HS9.out rfl (by simp only [List.setIfInBounds_toArray, List.set_cons_succ, List.set_cons_zero]; rfl) ?_
        first
          | refine pl_get (i := 6) rfl rfl HS9.out rfl (fun u hu => by (try dsimp only at hu); go_simp; rfl) (by simp only [List.setIfInBounds_toArray, List.set_cons_succ, List.set_cons_zero]; rfl) ?_
          | refine pl_skip (i := 6) rfl rfl HS9.out rfl (by simp only [List.setIfInBounds_toArray, List.set_cons_succ, List.set_cons_zero]; rfl) ?_
        first
          | refine pl_get (i := 7) rfl rfl HS9.out rfl (fun u hu => by (try dsimp only at hu); go_simp; rfl) (by simp only [List.setIfInBounds_toArray, List.set_cons_succ, List.set_cons_zero]; rfl) ?_
          | refine pl_skip (i := 7) rfl rfl HS9.out rfl (by simp only [List.setIfInBounds_toArray, List.set_cons_succ, List.set_cons_zero]; rfl) ?_
        first
          | refine pl_get (i := 8) rfl rfl HS9.out rfl (fun u hu => by (try dsimp only at hu); go_simp; rfl) (by simp only [List.setIfInBounds_toArray, List.set_cons_succ, List.set_cons_zero]; rfl) ?_
          | refine pl_skip (i := 8) rfl rfl HS9.out rfl (by simp only [List.setIfInBounds_toArray, List.set_cons_succ, List.set_cons_zero]; rfl) ?_
        first
          | refine pl_get (i := 9) rfl rfl HS9.out rfl (fun u hu => by (try dsimp only at hu); go_simp; rfl) (by simp only [List.setIfInBounds_toArray, List.set_cons_succ, List.set_cons_zero]; rfl) ?_
          | refine pl_skip (i := 9) rfl rfl HS9.out rfl (by simp only [List.setIfInBounds_toArray, List.set_cons_succ, List.set_cons_zero]; rfl) ?_
        first
          | refine pl_get (i := 10) rfl rfl HS9.out rfl (fun u hu => by (try dsimp only at hu); go_simp; rfl) (by simp only [List.setIfInBounds_toArray, List.set_cons_succ, List.set_cons_zero]; rfl) ?_
          | refine pl_skip (i := 10) rfl rfl HS9.out rfl (by simp only [List.setIfInBounds_toArray, List.set_cons_succ, List.set_cons_zero]; rfl) ?_
        first
          | refine pl_get (i := 11) rfl rfl HS9.out rfl (fun u hu => by (try dsimp only at hu); go_simp; rfl) (by simp only [List.setIfInBounds_toArray, List.set_cons_succ, List.set_cons_zero]; rfl) ?_
          | refine pl_skip (i := 11) rfl rfl HS9.out rfl (by simp only [List.setIfInBounds_toArray, List.set_cons_succ, List.set_cons_zero]; rfl) ?_
        first
          | refine pl_get (i := 12) rfl rfl HS9.out rfl (fun u hu => by (try dsimp only at hu); go_simp; rfl) (by simp only [List.setIfInBounds_toArray, List.set_cons_succ, List.set_cons_zero]; rfl) ?_
          | refine pl_skip (i := 12) rfl rfl HS9.out rfl (by simp only [List.setIfInBounds_toArray, List.set_cons_succ, List.set_cons_zero]; rfl) ?_
        first
          | refine pl_get (i := 13) rfl rfl HS9.out rfl (fun u hu => by (try dsimp only at hu); go_simp; rfl) (by simp only [List.setIfInBounds_toArray, List.set_cons_succ, List.set_cons_zero]; rfl) ?_
          | refine pl_skip (i := 13) rfl rfl HS9.out rfl (by simp only [List.setIfInBounds_toArray, List.set_cons_succ, List.set_cons_zero]; rfl) ?_
        first
          | refine pl_get (i := 14) rfl rfl HS9.out rfl (fun u hu => by (try dsimp only at hu); go_simp; rfl) (by simp only [List.setIfInBounds_toArray, List.set_cons_succ, List.set_cons_zero]; rfl) ?_
          | refine pl_skip (i := 14) rfl rfl HS9.out rfl (by simp only [List.setIfInBounds_toArray, List.set_cons_succ, List.set_cons_zero]; rfl) ?_
        first
          | refine pl_get (i := 15) rfl rfl HS9.out rfl (fun u hu => by (try dsimp only at hu); go_simp; rfl) (by simp only [List.setIfInBounds_toArray, List.set_cons_succ, List.set_cons_zero]; rfl) ?_
          | refine pl_skip (i := 15) rfl rfl HS9.out rfl (by simp only [List.setIfInBounds_toArray, List.set_cons_succ, List.set_cons_zero]; rfl) ?_
        first
          | refine pl_get (i := 16) rfl rfl HS9.out rfl (fun u hu => by (try dsimp only at hu); go_simp; rfl) (by simp only [List.setIfInBounds_toArray, List.set_cons_succ, List.set_cons_zero]; rfl) ?_
          | refine pl_skip (i := 16) rfl rfl HS9.out rfl (by simp only [List.setIfInBounds_toArray, List.set_cons_succ, List.set_cons_zero]; rfl) ?_
        first
          | refine pl_get (i := 17) rfl rfl HS9.out rfl (fun u hu => by (try dsimp only at hu); go_simp; rfl) (by simp only [List.setIfInBounds_toArray, List.set_cons_succ, List.set_cons_zero]; rfl) ?_
          | refine pl_skip (i := 17) rfl rfl HS9.out rfl (by simp only [List.setIfInBounds_toArray, List.set_cons_succ, List.set_cons_zero]; rfl) ?_
        first
          | refine pl_get (i := 18) rfl rfl HS9.out rfl (fun u hu => by (try dsimp only at hu); go_simp; rfl) (by simp only [List.setIfInBounds_toArray, List.set_cons_succ, List.set_cons_zero]; rfl) ?_
          | refine pl_skip (i := 18) rfl rfl HS9.out rfl (by simp only [List.setIfInBounds_toArray, List.set_cons_succ, List.set_cons_zero]; rfl) ?_
        refine pl_one (i := 19) rfl ?_
        go_wp2_with ((go_at_call 18; refine (at_any _ w.heap.size gb ga gc G key G.length Hgb9.out HO9.out (by omega) vX HvX.out).mono ?_; rintro _ w10 ⟨rfl, k10⟩))
        have kx := k10.alloc (.cells #[.int .i64 (kw : Int), .int .i64 (G.length : Int), .string key, .int .i64 tok, .int .i64 vX.e, .int .i64 vX.i, .bool vX.th, .string vX.tx] 62)
        have HS10 := Lib.hid (show w10.cell? ⟨gb, 0, none⟩ = some (.slice ga G.length gc) ∧ w10.cell? ⟨ob, 3, none⟩ = some (.string key) ∧ w10.cell? ⟨qb, 6, none⟩ = some (.int .i64 tok) from ⟨k10.some HS9.out.1 (fun h => h), k10.some HS9.out.2.1 (fun h => h), k10.some HS9.out.2.2 (fun h => h)⟩)
        have HS11 := Lib.hid (show (w10.alloc (.cells #[.int .i64 (kw : Int), .int .i64 (G.length : Int), .string key, .int .i64 tok, .int .i64 vX.e, .int .i64 vX.i, .bool vX.th, .string vX.tx] 62)).cell? ⟨gb, 0, none⟩ = some (.slice ga G.length gc) ∧ (w10.alloc (.cells #[.int .i64 (kw : Int), .int .i64 (G.length : Int), .string key, .int .i64 tok, .int .i64 vX.e, .int .i64 vX.i, .bool vX.th, .string vX.tx] 62)).cell? ⟨ob, 3, none⟩ = some (.string key) ∧ (w10.alloc (.cells #[.int .i64 (kw : Int), .int .i64 (G.length : Int), .string key, .int .i64 tok, .int .i64 vX.e, .int .i64 vX.i, .bool vX.th, .string vX.tx] 62)).cell? ⟨qb, 6, none⟩ = some (.int .i64 tok) from ⟨kx.some HS9.out.1 (fun h => h), kx.some HS9.out.2.1 (fun h => h), kx.some HS9.out.2.2 (fun h => h)⟩)
        have HD11 := Lib.hid (HD9.out.keep0 kx)
        have Hgb11 := Lib.hid (blk_keep Hgb9.out kx (fun h => h))
        have Hbq11 := Lib.hid (blk_keep Hbq9.out kx (fun h => h))
        have Hbo11 := Lib.hid (blk_keep Hbo9.out kx (fun h => h))
        have ex := blk_new w10 (.cells #[.int .i64 (kw : Int), .int .i64 (G.length : Int), .string key, .int .i64 tok, .int .i64 vX.e, .int .i64 vX.i, .bool vX.th, .string vX.tx] 62)
        clear k10 kx HD9 Hgb9 HO9 Hbq9 Hbo9 HS9
        refine pl_next (fun _ => HS10.out) ?_
        refine pl_get (i := 20) rfl rfl HS10.out rfl (fun u _ => exec_bd rfl rfl ((fun u => bd62 u (kw : Int) (G.length : Int) tok vX.e vX.i vX.th key vX.tx) u)) (by simp only [List.setIfInBounds_toArray, List.set_cons_succ, List.set_cons_zero]; rfl) ?_
        refine pl_act (i := 21) rfl rfl rfl (exec_bs rfl rfl (bs62 w10 (kw : Int) (G.length : Int) tok vX.e vX.i vX.th key vX.tx)) (by simp only [List.setIfInBounds_toArray, List.set_cons_succ, List.set_cons_zero]; rfl) ?_
        refine pl_next (fun _ => HS11.out) ?_
        clear HS10
        generalize w10.alloc (.cells #[.int .i64 (kw : Int), .int .i64 (G.length : Int), .string key, .int .i64 tok, .int .i64 vX.e, .int .i64 vX.i, .bool vX.th, .string vX.tx] 62) = w11 at HS11 HD11 Hgb11 Hbq11 Hbo11 ex ⊢
        generalize w10.heap.size = xb at ex ⊢
        obtain ⟨RD', hRD'⟩ : ∃ l, RD ++ [(⟨(kw : Int), (G.length : Int), key, tok, vX⟩ : RR)] = l := ⟨_, rfl⟩
        have HRD' := Lib.hid hRD'
        have hws : w.heap.size ≤ w11.heap.size := HD11.out.hk.size
        clear hRD'
        refine pl_one (i := 22) rfl ?_
        refine wpList_append_one (B := w.heap.size) rfl (.tmp 185) (.tmp 206) 52 rfl Try.underlying52 info62' (by kernel_rfl) (by decide) (by decide) rfl HD11.out.own rrCells_len ⟨(kw : Int), (G.length : Int), key, tok, vX⟩ rfl (c := #[.int .i64 (kw : Int), .int .i64 (G.length : Int), .string key, .int .i64 tok, .int .i64 vX.e, .int .i64 vX.i, .bool vX.th, .string vX.tx]) (t' := 62) (f := (0, 0)) ex rfl (rrCells_one _) (by omega) hws HRD'.out ?_
        intro a4 c4 w12 O4 k4
        have HS13 := Lib.hid (show w12.cell? ⟨gb, 0, none⟩ = some (.slice ga G.length gc) ∧ w12.cell? ⟨ob, 3, none⟩ = some (.string key) ∧ w12.cell? ⟨qb, 6, none⟩ = some (.int .i64 tok) from ⟨k4.some HS11.out.1 (fun e => HD11.out.own.ne Hgb11.out (by decide) _ e rfl), k4.some HS11.out.2.1 (fun e => HD11.out.own.ne Hbo11.out (by decide) _ e rfl), k4.some HS11.out.2.2 (fun e => HD11.out.own.ne Hbq11.out (by decide) _ e rfl)⟩)
        have HK := Lib.hid (rk_new HQ.out.1 (kw : Int) tok key hks htl vX (by rw [← HvX.out, vv_atI]) (by rw [← HvX.out]; exact atI_ts (fun y hy => (HD11.out.gk y hy).2)))
        have HSX := Lib.hid (HD11.out.read (by rw [HRD'.out]; exact O4) k4 (Nat.succ_le_succ hRk) hkw rfl (by rw [upd_self]; exact HK.out))
        rw [HRD'.out] at HSX
        clear O4 k4 ex hws HS11 HD11 Hgb11 Hbq11 Hbo11 HK
        refine pl_next (fun _ => HS13.out) ?_
        (try simp only [Act.put, List.getElem_toArray, List.getElem_cons_succ, List.getElem_cons_zero, List.setIfInBounds_toArray, List.set_cons_succ, List.set_cons_zero])
        refine pl_one (i := 23) rfl ?_
        go_wp2_with (fail)
        refine pl_next (fun _ => HS13.out) ?_
        refine pl_done ?_
        clear HS13
        go_wp2_with fail
        (try simp only [Exit.inBlock, Exit.then])
        unfold SwPost
        refine ⟨rfl, ?_⟩
        (repeat apply Exists.intro)
        exact ⟨rfl, HSX.out⟩
      · have d7 : decide (0 < tok) = false := decide_eq_false htok
        go_wp2_with fail
        (try simp only [Exit.inBlock, Exit.then])
        unfold SwPost
        refine ⟨rfl, ?_⟩
        (repeat apply Exists.intro)
        exact ⟨rfl, HD8.out⟩
    · go_wp2_with fail
      refine wp_region_pl (fun u => u.cell? ⟨qb, 0, none⟩ = some (.int .i64 gkd)) [] (.rd 0 (.rd 1 (.rd 2 (.rd 3 (.rd 4 (.rd 5 (.rd 6 (.rd 7 (.rd 8 (.rd 9 (.rd 10 (.rd 11 (.rd 12 (.rd 13 (.rd 14 (.one 15 (.rd 16 (.rd 17 .done)))))))))))))))))) (by kernel_rfl) (by kernel_rfl) (by kernel_rfl) (by kernel_rfl) (by intro c b d v u h; first | (cases d <;> exact h) | exact Exit.noConfusion (And.left h : Exit.panic c = Exit.normal)) ?_
      have kd0 : Keep NoB w6 w6.drew := (Keep.refl NoB w6).drew
      have HS7 := Lib.hid (show w6.drew.cell? ⟨qb, 0, none⟩ = some (.int .i64 gkd) from z0)
      have HD7 := Lib.hid (HS6.out.keep0 kd0)
      have Hbq7 := Lib.hid (blk_keep Hbq.out kd0 (fun h => h))
      have Hbo7 := Lib.hid (blk_keep Hbo6.out kd0 (fun h => h))
      clear kd0 z0 z1 z2 z3 z4 z5 z6 o3 b6 Hbq HS6 Hbo6
      generalize w6.drew = w7 at HS7 HD7 Hbq7 Hbo7 ⊢
      first
        | refine pl_get (i := 0) rfl rfl HS7.out rfl (fun u hu => by (try dsimp only at hu); go_simp; rfl) (by simp only [List.setIfInBounds_toArray, List.set_cons_succ, List.set_cons_zero]; rfl) ?_
        | refine pl_skip (i := 0) rfl rfl HS7.out rfl (by simp only [List.setIfInBounds_toArray, List.set_cons_succ, List.set_cons_zero]; rfl) ?_
      first
        | refine pl_get (i := 1) rfl rfl HS7.out rfl (fun u hu => by (try dsimp only at hu); go_simp; rfl) (by simp only [List.setIfInBounds_toArray, List.set_cons_succ, List.set_cons_zero]; rfl) ?_
        | refine pl_skip (i := 1) rfl rfl HS7.out rfl (by simp only [List.setIfInBounds_toArray, List.set_cons_succ, List.set_cons_zero]; rfl) ?_
      first
        | refine pl_get (i := 2) rfl rfl HS7.out rfl (fun u hu => by (try dsimp only at hu); go_simp; rfl) (by simp only [List.setIfInBounds_toArray, List.set_cons_succ, List.set_cons_zero]; rfl) ?_
        | refine pl_skip (i := 2) rfl rfl HS7.out rfl (by simp only [List.setIfInBounds_toArray, List.set_cons_succ, List.set_cons_zero]; rfl) ?_
      first
        | refine pl_get (i := 3) rfl rfl HS7.out rfl (fun u hu => by (try dsimp only at hu); go_simp; rfl) (by simp only [List.setIfInBounds_toArray, List.set_cons_succ, List.set_cons_zero]; rfl) ?_
        | refine pl_skip (i := 3) rfl rfl HS7.out rfl (by simp only [List.setIfInBounds_toArray, List.set_cons_succ, List.set_cons_zero]; rfl) ?_
      first
        | refine pl_get (i := 4) rfl rfl HS7.out rfl (fun u hu => by (try dsimp only at hu); go_simp; rfl) (by simp only [List.setIfInBounds_toArray, List.set_cons_succ, List.set_cons_zero]; rfl) ?_
        | refine pl_skip (i := 4) rfl rfl HS7.out rfl (by simp only [List.setIfInBounds_toArray, List.set_cons_succ, List.set_cons_zero]; rfl) ?_
      first
        | refine pl_get (i := 5) rfl rfl HS7.out rfl (fun u hu => by (try dsimp only at hu); go_simp; rfl) (by simp only [List.setIfInBounds_toArray, List.set_cons_succ, List.set_cons_zero]; rfl) ?_
        | refine pl_skip (i := 5) rfl rfl HS7.out rfl (by simp only [List.setIfInBounds_toArray, List.set_cons_succ, List.set_cons_zero]; rfl) ?_
      first
        | refine pl_get (i := 6) rfl rfl HS7.out rfl (fun u hu => by (try dsimp only at hu); go_simp; rfl) (by simp only [List.setIfInBounds_toArray, List.set_cons_succ, List.set_cons_zero]; rfl) ?_
        | refine pl_skip (i := 6) rfl rfl HS7.out rfl (by simp only [List.setIfInBounds_toArray, List.set_cons_succ, List.set_cons_zero]; rfl) ?_
      first
        | refine pl_get (i := 7) rfl rfl HS7.out rfl (fun u hu => by (try dsimp only at hu); go_simp; rfl) (by simp only [List.setIfInBounds_toArray, List.set_cons_succ, List.set_cons_zero]; rfl) ?_
        | refine pl_skip (i := 7) rfl rfl HS7.out rfl (by simp only [List.setIfInBounds_toArray, List.set_cons_succ, List.set_cons_zero]; rfl) ?_
      first
        | refine pl_get (i := 8) rfl rfl HS7.out rfl (fun u hu => by (try dsimp only at hu); go_simp; rfl) (by simp only [List.setIfInBounds_toArray, List.set_cons_succ, List.set_cons_zero]; rfl) ?_
        | refine pl_skip (i := 8) rfl rfl HS7.out rfl (by simp only [List.setIfInBounds_toArray, List.set_cons_succ, List.set_cons_zero]; rfl) ?_
      first
        | refine pl_get (i := 9) rfl rfl HS7.out rfl (fun u hu => by (try dsimp only at hu); go_simp; rfl) (by simp only [List.setIfInBounds_toArray, List.set_cons_succ, List.set_cons_zero]; rfl) ?_
        | refine pl_skip (i := 9) rfl rfl HS7.out rfl (by simp only [List.setIfInBounds_toArray, List.set_cons_succ, List.set_cons_zero]; rfl) ?_
      first
        | refine pl_get (i := 10) rfl rfl HS7.out rfl (fun u hu => by (try dsimp only at hu); go_simp; rfl) (by simp only [List.setIfInBounds_toArray, List.set_cons_succ, List.set_cons_zero]; rfl) ?_
        | refine pl_skip (i := 10) rfl rfl HS7.out rfl (by simp only [List.setIfInBounds_toArray, List.set_cons_succ, List.set_cons_zero]; rfl) ?_
      first
        | refine pl_get (i := 11) rfl rfl HS7.out rfl (fun u hu => by (try dsimp only at hu); go_simp; rfl) (by simp only [List.setIfInBounds_toArray, List.set_cons_succ, List.set_cons_zero]; rfl) ?_
        | refine pl_skip (i := 11) rfl rfl HS7.out rfl (by simp only [List.setIfInBounds_toArray, List.set_cons_succ, List.set_cons_zero]; rfl) ?_
      first
        | refine pl_get (i := 12) rfl rfl HS7.out rfl (fun u hu => by (try dsimp only at hu); go_simp; rfl) (by simp only [List.setIfInBounds_toArray, List.set_cons_succ, List.set_cons_zero]; rfl) ?_
        | refine pl_skip (i := 12) rfl rfl HS7.out rfl (by simp only [List.setIfInBounds_toArray, List.set_cons_succ, List.set_cons_zero]; rfl) ?_
      first
        | refine pl_get (i := 13) rfl rfl HS7.out rfl (fun u hu => by (try dsimp only at hu); go_simp; rfl) (by simp only [List.setIfInBounds_toArray, List.set_cons_succ, List.set_cons_zero]; rfl) ?_
        | refine pl_skip (i := 13) rfl rfl HS7.out rfl (by simp only [List.setIfInBounds_toArray, List.set_cons_succ, List.set_cons_zero]; rfl) ?_
      first
        | refine pl_get (i := 14) rfl rfl HS7.out rfl (fun u hu => by (try dsimp only at hu); go_simp; rfl) (by simp only [List.setIfInBounds_toArray, List.set_cons_succ, List.set_cons_zero]; rfl) ?_
        | refine pl_skip (i := 14) rfl rfl HS7.out rfl (by simp only [List.setIfInBounds_toArray, List.set_cons_succ, List.set_cons_zero]; rfl) ?_
      refine pl_one (i := 15) rfl ?_
      go_wp2_with (fail)
      refine pl_next (fun _ => HS7.out) ?_
      first
        | refine pl_get (i := 16) rfl rfl HS7.out rfl (fun u hu => by (try dsimp only at hu); go_simp; rfl) (by simp only [List.setIfInBounds_toArray, List.set_cons_succ, List.set_cons_zero]; rfl) ?_
        | refine pl_skip (i := 16) rfl rfl HS7.out rfl (by simp only [List.setIfInBounds_toArray, List.set_cons_succ, List.set_cons_zero]; rfl) ?_
      first
        | refine pl_get (i := 17) rfl rfl HS7.out rfl (fun u hu => by (try dsimp only at hu); go_simp; rfl) (by simp only [List.setIfInBounds_toArray, List.set_cons_succ, List.set_cons_zero]; rfl) ?_
        | refine pl_skip (i := 17) rfl rfl HS7.out rfl (by simp only [List.setIfInBounds_toArray, List.set_cons_succ, List.set_cons_zero]; rfl) ?_
      refine pl_done ?_
      clear hk0
      have c8 := blk_cell Hbq7.out 6
      simp at c8
      have cl8 := blk_lt Hbq7.out
      by_cases htok : 0 < tok
      · have d7 : decide (0 < tok) = true := decide_eq_true htok
        have htl : tok ≤ s5.last := HQ.out.2.2.2.resolve_left (by omega)
        obtain ⟨ga, gc, hgb, O⟩ := HD7.out.log
        have HO := Lib.hid O
        have Hgb := Lib.hid hgb
        have hGl : G.length ≤ 200 := by have := HD7.out.gl; omega
        have hRl : RD.length ≤ 151 := by have := HD7.out.rl; omega
        clear hgb O
        obtain ⟨vX, hvX⟩ : ∃ v, atI G key G.length = v := ⟨_, rfl⟩
        have HvX := Lib.hid hvX
        clear hvX
        go_wp2_with fail
        refine wp_region_pl (fun u => u.cell? ⟨gb, 0, none⟩ = some (.slice ga G.length gc) ∧ u.cell? ⟨ob, 3, none⟩ = some (.string key) ∧ u.cell? ⟨qb, 6, none⟩ = some (.int .i64 tok)) [] (.rd 0 (.rd 1 (.rd 2 (.rd 3 (.rd 4 (.rd 5 (.rd 6 (.rd 7 (.rd 8 (.rd 9 (.rd 10 (.rd 11 (.rd 12 (.rd 13 (.rd 14 (.rd 15 (.rd 16 (.rd 17 (.rd 18 (.one 19 (.rd 20 (.one 21 (.one 22 (.one 23 .done)))))))))))))))))))))))) (by kernel_rfl) (by kernel_rfl) (by kernel_rfl) (by kernel_rfl) (by intro c b d v u h; first | (cases d <;> exact h) | exact Exit.noConfusion (And.left h : Exit.panic c = Exit.normal)) ?_
        have kd9 : Keep NoB w7 (w7).drew := (Keep.refl NoB _).drew
        have HD9 := Lib.hid (HD7.out.keep0 kd9)
        have Hgb9 := Lib.hid (blk_keep Hgb.out kd9 (fun h => h))
        have HO9 := Lib.hid (HO.out.keep kd9 (fun _ _ h => h))
        have Hbq9 := Lib.hid (blk_keep Hbq7.out kd9 (fun h => h))
        have Hbo9 := Lib.hid (blk_keep Hbo7.out kd9 (fun h => h))
        clear kd9 c8 cl8 HD7 Hbq7 Hbo7 HO Hgb
        generalize (w7).drew = w9 at HD9 Hgb9 HO9 Hbq9 Hbo9 ⊢
        have e0 := blk_cell Hgb9.out 0
        have e3 := blk_cell Hbo9.out 3
        have e6 := blk_cell Hbq9.out 6
        simp at e0 e3 e6
        have HS9 := Lib.hid (show w9.cell? ⟨gb, 0, none⟩ = some (.slice ga G.length gc) ∧ w9.cell? ⟨ob, 3, none⟩ = some (.string key) ∧ w9.cell? ⟨qb, 6, none⟩ = some (.int .i64 tok) from ⟨e0, e3, e6⟩)
        clear e0 e3 e6
        first
          | refine pl_get (i := 0) rfl rfl HS9.out rfl (fun u hu => by (try dsimp only at hu); go_simp; rfl) (by simp only [List.setIfInBounds_toArray, List.set_cons_succ, List.set_cons_zero]; rfl) ?_
          | refine pl_skip (i := 0) rfl rfl HS9.out rfl (by simp only [List.setIfInBounds_toArray, List.set_cons_succ, List.set_cons_zero]; rfl) ?_
        first
          | refine pl_get (i := 1) rfl rfl HS9.out rfl (fun u hu => by (try dsimp only at hu); go_simp; rfl) (by simp only [List.setIfInBounds_toArray, List.set_cons_succ, List.set_cons_zero]; rfl) ?_
          | refine pl_skip (i := 1) rfl rfl HS9.out rfl (by simp only [List.setIfInBounds_toArray, List.set_cons_succ, List.set_cons_zero]; rfl) ?_
        first
          | refine pl_get (i := 2) rfl rfl HS9.out rfl (fun u hu => by (try dsimp only at hu); go_simp; rfl) (by simp only [List.setIfInBounds_toArray, List.set_cons_succ, List.set_cons_zero]; rfl) ?_
          | refine pl_skip (i := 2) rfl rfl HS9.out rfl (by simp only [List.setIfInBounds_toArray, List.set_cons_succ, List.set_cons_zero]; rfl) ?_
        first
          | refine pl_get (i := 3) rfl rfl HS9.out rfl (fun u hu => by (try dsimp only at hu); go_simp; rfl) (by simp only [List.setIfInBounds_toArray, List.set_cons_succ, List.set_cons_zero]; rfl) ?_
          | refine pl_skip (i := 3) rfl rfl HS9.out rfl (by simp only [List.setIfInBounds_toArray, List.set_cons_succ, List.set_cons_zero]; rfl) ?_
        first
          | refine pl_get (i := 4) rfl rfl HS9.out rfl (fun u hu => by (try dsimp only at hu); go_simp; rfl) (by simp only [List.setIfInBounds_toArray, List.set_cons_succ, List.set_cons_zero]; rfl) ?_
          | refine pl_skip (i := 4) rfl rfl HS9.out rfl (by simp only [List.setIfInBounds_toArray, List.set_cons_succ, List.set_cons_zero]; rfl) ?_
        first
          | refine pl_get (i := 5) rfl rfl HS9.out rfl (fun u hu => by (try dsimp only at hu); go_simp; rfl) (by simp only [List.setIfInBounds_toArray, List.set_cons_succ, List.set_cons_zero]; rfl) ?_
          | refine pl_skip (i := 5) rfl rfl HS9.out rfl (by simp only [List.setIfInBounds_toArray, List.set_cons_succ, List.set_cons_zero]; rfl) ?_
        first
          | refine pl_get (i := 6) rfl rfl HS9.out rfl (fun u hu => by (try dsimp only at hu); go_simp; rfl) (by simp only [List.setIfInBounds_toArray, List.set_cons_succ, List.set_cons_zero]; rfl) ?_
          | refine pl_skip (i := 6) rfl rfl HS9.out rfl (by simp only [List.setIfInBounds_toArray, List.set_cons_succ, List.set_cons_zero]; rfl) ?_
        first
          | refine pl_get (i := 7) rfl rfl HS9.out rfl (fun u hu => by (try dsimp only at hu); go_simp; rfl) (by simp only [List.setIfInBounds_toArray, List.set_cons_succ, List.set_cons_zero]; rfl) ?_
          | refine pl_skip (i := 7) rfl rfl HS9.out rfl (by simp only [List.setIfInBounds_toArray, List.set_cons_succ, List.set_cons_zero]; rfl) ?_
        first
          | refine pl_get (i := 8) rfl rfl HS9.out rfl (fun u hu => by (try dsimp only at hu); go_simp; rfl) (by simp only [List.setIfInBounds_toArray, List.set_cons_succ, List.set_cons_zero]; rfl) ?_
          | refine pl_skip (i := 8) rfl rfl HS9.out rfl (by simp only [List.setIfInBounds_toArray, List.set_cons_succ, List.set_cons_zero]; rfl) ?_
        first
          | refine pl_get (i := 9) rfl rfl HS9.out rfl (fun u hu => by (try dsimp only at hu); go_simp; rfl) (by simp only [List.setIfInBounds_toArray, List.set_cons_succ, List.set_cons_zero]; rfl) ?_
          | refine pl_skip (i := 9) rfl rfl HS9.out rfl (by simp only [List.setIfInBounds_toArray, List.set_cons_succ, List.set_cons_zero]; rfl) ?_
        first
          | refine pl_get (i := 10) rfl rfl HS9.out rfl (fun u hu => by (try dsimp only at hu); go_simp; rfl) (by simp only [List.setIfInBounds_toArray, List.set_cons_succ, List.set_cons_zero]; rfl) ?_
          | refine pl_skip (i := 10) rfl rfl HS9.out rfl (by simp only [List.setIfInBounds_toArray, List.set_cons_succ, List.set_cons_zero]; rfl) ?_
        first
          | refine pl_get (i := 11) rfl rfl HS9.out rfl (fun u hu => by (try dsimp only at hu); go_simp; rfl) (by simp only [List.setIfInBounds_toArray, List.set_cons_succ, List.set_cons_zero]; rfl) ?_
          | refine pl_skip (i := 11) rfl rfl HS9.out rfl (by simp only [List.setIfInBounds_toArray, List.set_cons_succ, List.set_cons_zero]; rfl) ?_
        first
          | refine pl_get (i := 12) rfl rfl HS9.out rfl (fun u hu => by (try dsimp only at hu); go_simp; rfl) (by simp only [List.setIfInBounds_toArray, List.set_cons_succ, List.set_cons_zero]; rfl) ?_
          | refine pl_skip (i := 12) rfl rfl HS9.out rfl (by simp only [List.setIfInBounds_toArray, List.set_cons_succ, List.set_cons_zero]; rfl) ?_
        first
          | refine pl_get (i := 13) rfl rfl HS9.out rfl (fun u hu => by (try dsimp only at hu); go_simp; rfl) (by simp only [List.setIfInBounds_toArray, List.set_cons_succ, List.set_cons_zero]; rfl) ?_
          | refine pl_skip (i := 13) rfl rfl HS9.out rfl (by simp only [List.setIfInBounds_toArray, List.set_cons_succ, List.set_cons_zero]; rfl) ?_
        first
          | refine pl_get (i := 14) rfl rfl HS9.out rfl (fun u hu => by (try dsimp only at hu); go_simp; rfl) (by simp only [List.setIfInBounds_toArray, List.set_cons_succ, List.set_cons_zero]; rfl) ?_
          | refine pl_skip (i := 14) rfl rfl HS9.out rfl (by simp only [List.setIfInBounds_toArray, List.set_cons_succ, List.set_cons_zero]; rfl) ?_
        first
          | refine pl_get (i := 15) rfl rfl HS9.out rfl (fun u hu => by (try dsimp only at hu); go_simp; rfl) (by simp only [List.setIfInBounds_toArray, List.set_cons_succ, List.set_cons_zero]; rfl) ?_
          | refine pl_skip (i := 15) rfl rfl HS9.out rfl (by simp only [List.setIfInBounds_toArray, List.set_cons_succ, List.set_cons_zero]; rfl) ?_
        first
          | refine pl_get (i := 16) rfl rfl HS9.out rfl (fun u hu => by (try dsimp only at hu); go_simp; rfl) (by simp only [List.setIfInBounds_toArray, List.set_cons_succ, List.set_cons_zero]; rfl) ?_
          | refine pl_skip (i := 16) rfl rfl HS9.out rfl (by simp only [List.setIfInBounds_toArray, List.set_cons_succ, List.set_cons_zero]; rfl) ?_
        first
          | refine pl_get (i := 17) rfl rfl HS9.out rfl (fun u hu => by (try dsimp only at hu); go_simp; rfl) (by simp only [List.setIfInBounds_toArray, List.set_cons_succ, List.set_cons_zero]; rfl) ?_
          | refine pl_skip (i := 17) rfl rfl HS9.out rfl (by simp only [List.setIfInBounds_toArray, List.set_cons_succ, List.set_cons_zero]; rfl) ?_
        first
          | refine pl_get (i := 18) rfl rfl HS9.out rfl (fun u hu => by (try dsimp only at hu); go_simp; rfl) (by simp only [List.setIfInBounds_toArray, List.set_cons_succ, List.set_cons_zero]; rfl) ?_
          | refine pl_skip (i := 18) rfl rfl HS9.out rfl (by simp only [List.setIfInBounds_toArray, List.set_cons_succ, List.set_cons_zero]; rfl) ?_
        refine pl_one (i := 19) rfl ?_
        go_wp2_with ((go_at_call 18; refine (at_any _ w.heap.size gb ga gc G key G.length Hgb9.out HO9.out (by omega) vX HvX.out).mono ?_; rintro _ w10 ⟨rfl, k10⟩))
        have kx := k10.alloc (.cells #[.int .i64 (kw : Int), .int .i64 (G.length : Int), .string key, .int .i64 tok, .int .i64 vX.e, .int .i64 vX.i, .bool vX.th, .string vX.tx] 62)
        have HS10 := Lib.hid (show w10.cell? ⟨gb, 0, none⟩ = some (.slice ga G.length gc) ∧ w10.cell? ⟨ob, 3, none⟩ = some (.string key) ∧ w10.cell? ⟨qb, 6, none⟩ = some (.int .i64 tok) from ⟨k10.some HS9.out.1 (fun h => h), k10.some HS9.out.2.1 (fun h => h), k10.some HS9.out.2.2 (fun h => h)⟩)
        have HS11 := Lib.hid (show (w10.alloc (.cells #[.int .i64 (kw : Int), .int .i64 (G.length : Int), .string key, .int .i64 tok, .int .i64 vX.e, .int .i64 vX.i, .bool vX.th, .string vX.tx] 62)).cell? ⟨gb, 0, none⟩ = some (.slice ga G.length gc) ∧ (w10.alloc (.cells #[.int .i64 (kw : Int), .int .i64 (G.length : Int), .string key, .int .i64 tok, .int .i64 vX.e, .int .i64 vX.i, .bool vX.th, .string vX.tx] 62)).cell? ⟨ob, 3, none⟩ = some (.string key) ∧ (w10.alloc (.cells #[.int .i64 (kw : Int), .int .i64 (G.length : Int), .string key, .int .i64 tok, .int .i64 vX.e, .int .i64 vX.i, .bool vX.th, .string vX.tx] 62)).cell? ⟨qb, 6, none⟩ = some (.int .i64 tok) from ⟨kx.some HS9.out.1 (fun h => h), kx.some HS9.out.2.1 (fun h => h), kx.some HS9.out.2.2 (fun h => h)⟩)
        have HD11 := Lib.hid (HD9.out.keep0 kx)
        have Hgb11 := Lib.hid (blk_keep Hgb9.out kx (fun h => h))
        have Hbq11 := Lib.hid (blk_keep Hbq9.out kx (fun h => h))
        have Hbo11 := Lib.hid (blk_keep Hbo9.out kx (fun h => h))
        have ex := blk_new w10 (.cells #[.int .i64 (kw : Int), .int .i64 (G.length : Int), .string key, .int .i64 tok, .int .i64 vX.e, .int .i64 vX.i, .bool vX.th, .string vX.tx] 62)
        clear k10 kx HD9 Hgb9 HO9 Hbq9 Hbo9 HS9
        refine pl_next (fun _ => HS10.out) ?_
        refine pl_get (i := 20) rfl rfl HS10.out rfl (fun u _ => exec_bd rfl rfl ((fun u => bd62 u (kw : Int) (G.length : Int) tok vX.e vX.i vX.th key vX.tx) u)) (by simp only [List.setIfInBounds_toArray, List.set_cons_succ, List.set_cons_zero]; rfl) ?_
        refine pl_act (i := 21) rfl rfl rfl (exec_bs rfl rfl (bs62 w10 (kw : Int) (G.length : Int) tok vX.e vX.i vX.th key vX.tx)) (by simp only [List.setIfInBounds_toArray, List.set_cons_succ, List.set_cons_zero]; rfl) ?_
        refine pl_next (fun _ => HS11.out) ?_
        clear HS10
        generalize w10.alloc (.cells #[.int .i64 (kw : Int), .int .i64 (G.length : Int), .string key, .int .i64 tok, .int .i64 vX.e, .int .i64 vX.i, .bool vX.th, .string vX.tx] 62) = w11 at HS11 HD11 Hgb11 Hbq11 Hbo11 ex ⊢
        generalize w10.heap.size = xb at ex ⊢
        obtain ⟨RD', hRD'⟩ : ∃ l, RD ++ [(⟨(kw : Int), (G.length : Int), key, tok, vX⟩ : RR)] = l := ⟨_, rfl⟩
        have HRD' := Lib.hid hRD'
        have hws : w.heap.size ≤ w11.heap.size := HD11.out.hk.size
        clear hRD'
        refine pl_one (i := 22) rfl ?_
        refine wpList_append_one (B := w.heap.size) rfl (.tmp 185) (.tmp 206) 52 rfl Try.underlying52 info62' (by kernel_rfl) (by decide) (by decide) rfl HD11.out.own rrCells_len ⟨(kw : Int), (G.length : Int), key, tok, vX⟩ rfl (c := #[.int .i64 (kw : Int), .int .i64 (G.length : Int), .string key, .int .i64 tok, .int .i64 vX.e, .int .i64 vX.i, .bool vX.th, .string vX.tx]) (t' := 62) (f := (0, 0)) ex rfl (rrCells_one _) (by omega) hws HRD'.out ?_
        intro a4 c4 w12 O4 k4
        have HS13 := Lib.hid (show w12.cell? ⟨gb, 0, none⟩ = some (.slice ga G.length gc) ∧ w12.cell? ⟨ob, 3, none⟩ = some (.string key) ∧ w12.cell? ⟨qb, 6, none⟩ = some (.int .i64 tok) from ⟨k4.some HS11.out.1 (fun e => HD11.out.own.ne Hgb11.out (by decide) _ e rfl), k4.some HS11.out.2.1 (fun e => HD11.out.own.ne Hbo11.out (by decide) _ e rfl), k4.some HS11.out.2.2 (fun e => HD11.out.own.ne Hbq11.out (by decide) _ e rfl)⟩)
        have HK := Lib.hid (rk_new HQ.out.1 (kw : Int) tok key hks htl vX (by rw [← HvX.out, vv_atI]) (by rw [← HvX.out]; exact atI_ts (fun y hy => (HD11.out.gk y hy).2)))
        have HSX := Lib.hid (HD11.out.read (by rw [HRD'.out]; exact O4) k4 (Nat.succ_le_succ hRk) hkw rfl (by rw [upd_self]; exact HK.out))
        rw [HRD'.out] at HSX
        clear O4 k4 ex hws HS11 HD11 Hgb11 Hbq11 Hbo11 HK
        refine pl_next (fun _ => HS13.out) ?_
        (try simp only [Act.put, List.getElem_toArray, List.getElem_cons_succ, List.getElem_cons_zero, List.setIfInBounds_toArray, List.set_cons_succ, List.set_cons_zero])
        refine pl_one (i := 23) rfl ?_
        go_wp2_with (fail)
        refine pl_next (fun _ => HS13.out) ?_
        refine pl_done ?_
        clear HS13
        go_wp2_with fail
        (try simp only [Exit.inBlock, Exit.then])
        unfold SwPost
        refine ⟨rfl, ?_⟩
        (repeat apply Exists.intro)
        exact ⟨rfl, HSX.out⟩
      · have d7 : decide (0 < tok) = false := decide_eq_false htok
        go_wp2_with fail
        (try simp only [Exit.inBlock, Exit.then])
        unfold SwPost
        refine ⟨rfl, ?_⟩
        (repeat apply Exists.intro)
        exact ⟨rfl, HD7.out⟩
end Go.Proofs.Ytieoejilppgebaa
