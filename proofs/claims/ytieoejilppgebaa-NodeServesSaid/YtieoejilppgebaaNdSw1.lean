/- Ways of the switch of NodeServes. -/
import Derived.Test.YtieoejilppgebaaNdSw
namespace Go.Proofs.Ytieoejilppgebaa
open Go Go.RowKit Go.Maps
set_option maxRecDepth 1000000
set_option maxHeartbeats 40000000 in
theorem sw_1 {w V : World} {nb wb gb ob : Nat} {b : Nat → NB} {G : List EN} {W : Nat → Nat} {s : Nat → NS} {RD : List RR} {ra : Option Addr} {rc k kw : Nat} {who ii : Int} {key text : ByteArray} (hkw : kw < 2) (hks : key.size ≤ 1000) (hts' : text.size ≤ 1000) (hk150 : k ≤ 150) (hop : wOk ⟨1, who, ii, key, text⟩) (hDV : SV w V nb wb gb b G W W s RD (.slice ra RD.length rc) k) (hbV : V.heap[ob]? = some (.cells #[.int .i64 1, .int .i64 who, .int .i64 ii, .string key, .string text] 58)) (c0 c1 c2 c3 c4 c5 c6 c11 c12 c15 c16 c17 c18 c19 c20 c21 c22 c23 c24 c25 c26 c27 c28 c29 c30 c31 c32 c33 c34 c35 c36 c37 c38 c39 c40 c41 c42 c43 c44 c45 c46 c47 c48 c49 c50 c51 c52 c53 c54 c55 c56 c57 c58 c59 c60 c61 c62 c63 c64 c65 c66 c67 c68 c69 c70 c71 c72 c73 c74 c75 c76 c77 c78 c79 c80 c81 c82 c83 c84 c85 c86 c87 c88 c89 c90 c91 c92 c93 c94 c95 c96 c97 c99 c100 c101 c102 c103 c104 c105 c106 c107 c108 c109 c110 c111 c112 c113 c114 c115 c116 c117 c118 c119 c120 c121 c122 c123 c124 c125 c126 c127 c128 c129 c130 c131 c132 c133 c134 c135 c136 c137 c138 c139 c140 c141 c142 c143 c144 c145 c146 c147 c148 c149 c150 c151 c152 c153 c154 c155 c156 c157 c158 c159 c160 c161 c162 c163 c164 c165 c166 c167 c168 c169 c170 c171 c172 c173 c174 c175 c176 c177 c178 c179 c180 c181 c182 c183 c184 c185 c186 c187 c188 c189 c190 c191 c192 c193 c194 c195 c196 c197 c198 c199 c200 c201 c202 c203 c204 c205 c206 c207 c208 c209 c210 c211 c212 c213 c214 c215 c216 c217 c218 c219 c220 c221 c222 c223 c224 c225 c226 c227 c228 c229 c230 c231 c232 c233 c234 c235 c236 c237 c238 c239 c240 c241 c242 c243 c244 c245 c246 c247 c248 c249 c250 c251 c252 c253 c254 c255 c256 c257 c258 c259 c260 c261 c262 c263 c264 c265 c266 c267 c268 c269 c270 c271 c272 c273 c274 c275 c276 c277 c278 c279 c280 c281 c282 c283 c284 c285 c286 c287 c288 c289 c290 c291 c292 c293 c294 c295 c296 c297 c298 c299 c300 c301 c302 c303 c304 c305 c306 c307 c308 c309 c310 c311 c312 c313 c314 c315 c316 c317 c318 c319 c320 c321 c322 c323 c324 c325 c326 c327 c328 c329 c330 c331 c332 c333 c334 c335 c336 c337 c338 c339 c340 c341 c342 c343 : Value) :
    Code.wp Try.prog sw (SwPost w nb wb gb ob b k kw c0 c1 c2 c3 c4 c5 c6 c11 c12 c20 c21 c22 c23 c24 c25 c26 c27 c28 c29 c30 c31 c32 c33 c34 c35 c36 c37 c38 c39 c40 c41 c42 c43 c44 c45 c46 c47 c48 c49 c50 c51 c52 c53 c54 c55 c56 c57 c58 c59 c60 c61 c62 c63 c64 c65 c66 c67 c68 c69 c70 c71 c72 c73 c74 c75 c76 c77 c78 c79 c80 c81 c82 c83 c84 c85 c86 c87 c88 c89 c90 c91 c92 c93 c94 c95 c96 c97 c301 c302 c303 c304 c305 c306 c307 c308 c309 c310 c311 c312 c313 c314 c315 c316 c317 c318 c319 c320 c321 c322 c323 c324 c325 c326 c327 c328 c329 c330 c331 c332 c333 c334 c335 c336 c337 c338 c339 c340 c341 c342 c343 (.int .i64 1)) ⟨#[c0, c1, c2, c3, c4, c5, c6, .pointer (some ⟨nb, 0, none⟩), .pointer (some ⟨gb, 0, none⟩), .pointer (some ⟨wb, 0, none⟩), .slice ra RD.length rc, c11, c12, .pointer (some ⟨ob, 0, none⟩), .int .i64 (kw : Int), c15, c16, c17, c18, c19, c20, c21, c22, c23, c24, c25, c26, c27, c28, c29, c30, c31, c32, c33, c34, c35, c36, c37, c38, c39, c40, c41, c42, c43, c44, c45, c46, c47, c48, c49, c50, c51, c52, c53, c54, c55, c56, c57, c58, c59, c60, c61, c62, c63, c64, c65, c66, c67, c68, c69, c70, c71, c72, c73, c74, c75, c76, c77, c78, c79, c80, c81, c82, c83, c84, c85, c86, c87, c88, c89, c90, c91, c92, c93, c94, c95, c96, c97, .int .i64 1, c99, c100, c101, c102, c103, c104, c105, c106, c107, c108, c109, c110, c111, c112, c113, c114, c115, c116, c117, c118, c119, c120, c121, c122, c123, c124, c125, c126, c127, c128, c129, c130, c131, c132, c133, c134, c135, c136, c137, c138, c139, c140, c141, c142, c143, c144, c145, c146, c147, c148, c149, c150, c151, c152, c153, c154, c155, c156, c157, c158, c159, c160, c161, c162, c163, c164, c165, c166, c167, c168, c169, c170, c171, c172, c173, c174, c175, c176, c177, c178, c179, c180, c181, c182, c183, c184, c185, c186, c187, c188, c189, c190, c191, c192, c193, c194, c195, c196, c197, c198, c199, c200, c201, c202, c203, c204, c205, c206, c207, c208, c209, c210, c211, c212, c213, c214, c215, c216, c217, c218, c219, c220, c221, c222, c223, c224, c225, c226, c227, c228, c229, c230, c231, c232, c233, c234, c235, c236, c237, c238, c239, c240, c241, c242, c243, c244, c245, c246, c247, c248, c249, c250, c251, c252, c253, c254, c255, c256, c257, c258, c259, c260, c261, c262, c263, c264, c265, c266, c267, c268, c269, c270, c271, c272, c273, c274, c275, c276, c277, c278, c279, c280, c281, c282, c283, c284, c285, c286, c287, c288, c289, c290, c291, c292, c293, c294, c295, c296, c297, c298, c299, c300, c301, c302, c303, c304, c305, c306, c307, c308, c309, c310, c311, c312, c313, c314, c315, c316, c317, c318, c319, c320, c321, c322, c323, c324, c325, c326, c327, c328, c329, c330, c331, c332, c333, c334, c335, c336, c337, c338, c339, c340, c341, c342, c343], []⟩ V := by
  have HDV := Lib.hid hDV
  have HbV := Lib.hid hbV
  have Hop := Lib.hid hop
  clear hDV hbV hop
  conv => arg 2; whnf
  obtain ⟨ga, gc, hgb, O⟩ := HDV.out.log
  have HO := Lib.hid O
  have Hgb := Lib.hid hgb
  have hGl : G.length ≤ 200 := by have := HDV.out.gl; omega
  have hk2 : (kw : Int) < 2 := by omega
  have hk3 : (0 : Int) ≤ (kw : Int) := by omega
  have hk4 : ¬ (kw : Int) < 0 := by omega
  have hk5 : ((kw : Int)).toNat = kw := by omega
  clear O
  go_wp2_with fail
  refine wp_region_pl (fun u => u.cell? ⟨wb, kw, none⟩ = some (.int .i64 (W kw : Int)) ∧ u.cell? ⟨gb, 0, none⟩ = some (.slice ga G.length gc)) [] (.rd 0 (.rd 1 (.rd 2 (.rd 3 (.rd 4 (.rd 5 (.rd 6 (.rd 7 (.rd 8 .done))))))))) (by kernel_rfl) (by kernel_rfl) (by kernel_rfl) (by kernel_rfl) (by intro c b d v u h; first | (cases d <;> exact h) | exact Exit.noConfusion (And.left h : Exit.panic c = Exit.normal)) ?_
  have kd : Keep NoB V V.drew := (Keep.refl NoB V).drew
  have HD1 := Lib.hid (HDV.out.keep0 kd)
  have Hgb1 := Lib.hid (blk_keep hgb kd (fun h => h))
  have HO1 := Lib.hid (HO.out.keep kd (fun _ _ h => h))
  clear kd hgb
  generalize V.drew = V1 at HD1 Hgb1 HO1 ⊢
  have c0 := blk_cell Hgb1.out 0
  simp at c0
  have HS1 := Lib.hid (show V1.cell? ⟨wb, kw, none⟩ = some (.int .i64 (W kw : Int)) ∧ V1.cell? ⟨gb, 0, none⟩ = some (.slice ga G.length gc) from ⟨place_cell HD1.out hkw, c0⟩)
  clear c0
  first
    | refine pl_get (i := 0) rfl rfl HS1.out rfl (fun u hu => by (try dsimp only at hu); go_simp; rfl) (by simp only [List.setIfInBounds_toArray, List.set_cons_succ, List.set_cons_zero]; rfl) ?_
    | refine pl_skip (i := 0) rfl rfl HS1.out rfl (by simp only [List.setIfInBounds_toArray, List.set_cons_succ, List.set_cons_zero]; rfl) ?_
  first
    | refine pl_get (i := 1) rfl rfl HS1.out rfl (fun u hu => by (try dsimp only at hu); go_simp; rfl) (by simp only [List.setIfInBounds_toArray, List.set_cons_succ, List.set_cons_zero]; rfl) ?_
    | refine pl_skip (i := 1) rfl rfl HS1.out rfl (by simp only [List.setIfInBounds_toArray, List.set_cons_succ, List.set_cons_zero]; rfl) ?_
  first
    | refine pl_get (i := 2) rfl rfl HS1.out rfl (fun u hu => by (try dsimp only at hu); go_simp; rfl) (by simp only [List.setIfInBounds_toArray, List.set_cons_succ, List.set_cons_zero]; rfl) ?_
    | refine pl_skip (i := 2) rfl rfl HS1.out rfl (by simp only [List.setIfInBounds_toArray, List.set_cons_succ, List.set_cons_zero]; rfl) ?_
  first
    | refine pl_get (i := 3) rfl rfl HS1.out rfl (fun u hu => by (try dsimp only at hu); go_simp; rfl) (by simp only [List.setIfInBounds_toArray, List.set_cons_succ, List.set_cons_zero]; rfl) ?_
    | refine pl_skip (i := 3) rfl rfl HS1.out rfl (by simp only [List.setIfInBounds_toArray, List.set_cons_succ, List.set_cons_zero]; rfl) ?_
  first
    | refine pl_get (i := 4) rfl rfl HS1.out rfl (fun u hu => by (try dsimp only at hu); go_simp; rfl) (by simp only [List.setIfInBounds_toArray, List.set_cons_succ, List.set_cons_zero]; rfl) ?_
    | refine pl_skip (i := 4) rfl rfl HS1.out rfl (by simp only [List.setIfInBounds_toArray, List.set_cons_succ, List.set_cons_zero]; rfl) ?_
  first
    | refine pl_get (i := 5) rfl rfl HS1.out rfl (fun u hu => by (try dsimp only at hu); go_simp; rfl) (by simp only [List.setIfInBounds_toArray, List.set_cons_succ, List.set_cons_zero]; rfl) ?_
    | refine pl_skip (i := 5) rfl rfl HS1.out rfl (by simp only [List.setIfInBounds_toArray, List.set_cons_succ, List.set_cons_zero]; rfl) ?_
  first
    | refine pl_get (i := 6) rfl rfl HS1.out rfl (fun u hu => by (try dsimp only at hu); go_simp; rfl) (by simp only [List.setIfInBounds_toArray, List.set_cons_succ, List.set_cons_zero]; rfl) ?_
    | refine pl_skip (i := 6) rfl rfl HS1.out rfl (by simp only [List.setIfInBounds_toArray, List.set_cons_succ, List.set_cons_zero]; rfl) ?_
  first
    | refine pl_get (i := 7) rfl rfl HS1.out rfl (fun u hu => by (try dsimp only at hu); go_simp; rfl) (by simp only [List.setIfInBounds_toArray, List.set_cons_succ, List.set_cons_zero]; rfl) ?_
    | refine pl_skip (i := 7) rfl rfl HS1.out rfl (by simp only [List.setIfInBounds_toArray, List.set_cons_succ, List.set_cons_zero]; rfl) ?_
  first
    | refine pl_get (i := 8) rfl rfl HS1.out rfl (fun u hu => by (try dsimp only at hu); go_simp; rfl) (by simp only [List.setIfInBounds_toArray, List.set_cons_succ, List.set_cons_zero]; rfl) ?_
    | refine pl_skip (i := 8) rfl rfl HS1.out rfl (by simp only [List.setIfInBounds_toArray, List.set_cons_succ, List.set_cons_zero]; rfl) ?_
  refine pl_done ?_
  by_cases hWG : W kw < G.length
  · have d6 : decide ((W kw : Int) < (G.length : Int)) = true := decide_eq_true (by omega)
    obtain ⟨x, hx⟩ : ∃ x, G[W kw]? = some x := ⟨_, List.getElem?_eq_getElem hWG⟩
    have Hx := Lib.hid hx
    have hxk : x.k.size ≤ maxLen := by have := (HD1.out.gk x (List.mem_of_getElem? hx)).1; unfold maxLen; omega
    have hw1 : IntKind.i64.wrap ((W kw : Int) + 1) = (W kw : Int) + 1 := IntWalk.i64_in _ (by omega)
    have hw2 : IntKind.i64.wrap ((W kw : Int) + 1 - 1) = (W kw : Int) := by rw [show (W kw : Int) + 1 - 1 = (W kw : Int) by omega]; exact IntWalk.i64_in _ (by omega)
    have hw3 : IntKind.i64.wrap (W kw : Int) = (W kw : Int) := IntWalk.i64_in _ (by omega)
    have hb1 : (W kw : Int) < (G.length : Int) := by omega
    have hb2 : (0 : Int) ≤ (W kw : Int) := by omega
    have hb3 : ¬ (W kw : Int) < 0 := by omega
    have hb4 : ((W kw : Int)).toNat = W kw := by omega
    have p0 := place_cell HD1.out hkw
    have pl := blk_lt HD1.out.ws
    have pf := blk_free HD1.out.ws kw
    clear hx
    go_wp2_with fail
    have b5 : (V1.setCell ⟨wb, kw, none⟩ (.int .i64 ((W kw : Int) + 1))).heap[wb]? = some (.cells #[.int .i64 ((upd W kw (W kw + 1) 0 : Nat) : Int), .int .i64 ((upd W kw (W kw + 1) 1 : Nat) : Int)] 51 (0, 0)) := by
      have h := blk_setCell (i := kw) HD1.out.ws (.int .i64 ((W kw : Int) + 1))
      have hc : kw = 0 ∨ kw = 1 := by omega
      rcases hc with rfl | rfl
      · rw [upd_self, upd_ne (by decide : (1 : Nat) ≠ 0)]; simpa using h
      · rw [upd_self, upd_ne (by decide : (0 : Nat) ≠ 1)]; simpa using h
    have K5 := (Keep.refl (OneB wb) V1).setCell (p := ⟨wb, kw, none⟩) (Or.inr rfl) (.int .i64 ((W kw : Int) + 1))
    generalize World.setCell _ _ _ = w5 at b5 K5 ⊢
    have HD5 := Lib.hid (HD1.out.store (upd W kw (W kw + 1)) b5 K5)
    have hgw : gb ≠ wb := sh_ne ⟨_, _, Hgb1.out⟩ ⟨_, _, HD1.out.ws⟩ (by decide)
    have Hgb5 := Lib.hid (blk_keep Hgb1.out K5 (fun e => hgw e))
    have HO5 := Lib.hid (HO1.out.keep K5 (fun g hg e => HO1.out.ne HD1.out.ws (by decide) g hg e))
    clear b5 K5 p0 pl pf
    obtain ⟨g, cg, hvv, hg1, hg2, hcx⟩ := HO5.out.cells enCells_len Hx.out
    cases hvv
    have m4 := hcx 4 _ rfl
    have HM4 := Lib.hid m4
    clear hcx m4
    refine wp_region_pl (fun u => u.cell? ⟨nb, kw, none⟩ = some (.pointer (some ⟨(b kw).nb, 0, none⟩)) ∧ u.cell? ⟨gb, 0, none⟩ = some (.slice (some ⟨g, 0, none⟩) G.length gc) ∧ u.cell? ⟨wb, kw, none⟩ = some (.int .i64 ((W kw : Int) + 1)) ∧ u.cell? ⟨g, W kw * 7 + 4, none⟩ = some (.string x.k)) [] (.rd 0 (.rd 1 (.rd 2 (.rd 3 (.rd 4 (.rd 5 (.rd 6 (.rd 7 (.rd 8 (.rd 9 (.rd 10 (.rd 11 (.rd 12 (.rd 13 (.rd 14 (.rd 15 (.rd 16 (.one 17 .done)))))))))))))))))) (by kernel_rfl) (by kernel_rfl) (by kernel_rfl) (by kernel_rfl) (by intro c b d v u h; first | (cases d <;> exact h) | exact Exit.noConfusion (And.left h : Exit.panic c = Exit.normal)) ?_
    have kd0 : Keep NoB w5 w5.drew := (Keep.refl NoB w5).drew
    have HD6 := Lib.hid (HD5.out.keep0 kd0)
    have Hgb6 := Lib.hid (blk_keep Hgb5.out kd0 (fun h => h))
    have HO6 := Lib.hid (HO5.out.keep kd0 (fun _ _ h => h))
    have m4 := kd0.some HM4.out (fun h => h)
    clear kd0 HD5 Hgb5 HO5 HM4
    generalize w5.drew = w6 at HD6 Hgb6 HO6 m4 ⊢
    have c0 := blk_cell Hgb6.out 0
    have p1 := place_cell HD6.out hkw
    rw [upd_self] at p1
    simp at c0
    have HS6 := Lib.hid (show w6.cell? ⟨nb, kw, none⟩ = some (.pointer (some ⟨(b kw).nb, 0, none⟩)) ∧ w6.cell? ⟨gb, 0, none⟩ = some (.slice (some ⟨g, 0, none⟩) G.length gc) ∧ w6.cell? ⟨wb, kw, none⟩ = some (.int .i64 ((W kw : Int) + 1)) ∧ w6.cell? ⟨g, W kw * 7 + 4, none⟩ = some (.string x.k) from ⟨node_cell HD6.out hkw, c0, by simpa using p1, m4⟩)
    clear c0 p1 m4
    first
      | refine pl_get (i := 0) rfl rfl HS6.out rfl (fun u hu => by (try dsimp only at hu); go_simp; rfl) (by simp only [List.setIfInBounds_toArray, List.set_cons_succ, List.set_cons_zero]; rfl) ?_
      | refine pl_skip (i := 0) rfl rfl HS6.out rfl (by simp only [List.setIfInBounds_toArray, List.set_cons_succ, List.set_cons_zero]; rfl) ?_
    first
      | refine pl_get (i := 1) rfl rfl HS6.out rfl (fun u hu => by (try dsimp only at hu); go_simp; rfl) (by simp only [List.setIfInBounds_toArray, List.set_cons_succ, List.set_cons_zero]; rfl) ?_
      | refine pl_skip (i := 1) rfl rfl HS6.out rfl (by simp only [List.setIfInBounds_toArray, List.set_cons_succ, List.set_cons_zero]; rfl) ?_
    first
      | refine pl_get (i := 2) rfl rfl HS6.out rfl (fun u hu => by (try dsimp only at hu); go_simp; rfl) (by simp only [List.setIfInBounds_toArray, List.set_cons_succ, List.set_cons_zero]; rfl) ?_
      | refine pl_skip (i := 2) rfl rfl HS6.out rfl (by simp only [List.setIfInBounds_toArray, List.set_cons_succ, List.set_cons_zero]; rfl) ?_
    first
      | refine pl_get (i := 3) rfl rfl HS6.out rfl (fun u hu => by (try dsimp only at hu); go_simp; rfl) (by simp only [List.setIfInBounds_toArray, List.set_cons_succ, List.set_cons_zero]; rfl) ?_
      | refine pl_skip (i := 3) rfl rfl HS6.out rfl (by simp only [List.setIfInBounds_toArray, List.set_cons_succ, List.set_cons_zero]; rfl) ?_
    first
      | refine pl_get (i := 4) rfl rfl HS6.out rfl (fun u hu => by (try dsimp only at hu); go_simp; rfl) (by simp only [List.setIfInBounds_toArray, List.set_cons_succ, List.set_cons_zero]; rfl) ?_
      | refine pl_skip (i := 4) rfl rfl HS6.out rfl (by simp only [List.setIfInBounds_toArray, List.set_cons_succ, List.set_cons_zero]; rfl) ?_
    first
      | refine pl_get (i := 5) rfl rfl HS6.out rfl (fun u hu => by (try dsimp only at hu); go_simp; rfl) (by simp only [List.setIfInBounds_toArray, List.set_cons_succ, List.set_cons_zero]; rfl) ?_
      | refine pl_skip (i := 5) rfl rfl HS6.out rfl (by simp only [List.setIfInBounds_toArray, List.set_cons_succ, List.set_cons_zero]; rfl) ?_
    first
      | refine pl_get (i := 6) rfl rfl HS6.out rfl (fun u hu => by (try dsimp only at hu); go_simp; rfl) (by simp only [List.setIfInBounds_toArray, List.set_cons_succ, List.set_cons_zero]; rfl) ?_
      | refine pl_skip (i := 6) rfl rfl HS6.out rfl (by simp only [List.setIfInBounds_toArray, List.set_cons_succ, List.set_cons_zero]; rfl) ?_
    first
      | refine pl_get (i := 7) rfl rfl HS6.out rfl (fun u hu => by (try dsimp only at hu); go_simp; rfl) (by simp only [List.setIfInBounds_toArray, List.set_cons_succ, List.set_cons_zero]; rfl) ?_
      | refine pl_skip (i := 7) rfl rfl HS6.out rfl (by simp only [List.setIfInBounds_toArray, List.set_cons_succ, List.set_cons_zero]; rfl) ?_
    first
      | refine pl_get (i := 8) rfl rfl HS6.out rfl (fun u hu => by (try dsimp only at hu); go_simp; rfl) (by simp only [List.setIfInBounds_toArray, List.set_cons_succ, List.set_cons_zero]; rfl) ?_
      | refine pl_skip (i := 8) rfl rfl HS6.out rfl (by simp only [List.setIfInBounds_toArray, List.set_cons_succ, List.set_cons_zero]; rfl) ?_
    first
      | refine pl_get (i := 9) rfl rfl HS6.out rfl (fun u hu => by (try dsimp only at hu); go_simp; rfl) (by simp only [List.setIfInBounds_toArray, List.set_cons_succ, List.set_cons_zero]; rfl) ?_
      | refine pl_skip (i := 9) rfl rfl HS6.out rfl (by simp only [List.setIfInBounds_toArray, List.set_cons_succ, List.set_cons_zero]; rfl) ?_
    first
      | refine pl_get (i := 10) rfl rfl HS6.out rfl (fun u hu => by (try dsimp only at hu); go_simp; rfl) (by simp only [List.setIfInBounds_toArray, List.set_cons_succ, List.set_cons_zero]; rfl) ?_
      | refine pl_skip (i := 10) rfl rfl HS6.out rfl (by simp only [List.setIfInBounds_toArray, List.set_cons_succ, List.set_cons_zero]; rfl) ?_
    first
      | refine pl_get (i := 11) rfl rfl HS6.out rfl (fun u hu => by (try dsimp only at hu); go_simp; rfl) (by simp only [List.setIfInBounds_toArray, List.set_cons_succ, List.set_cons_zero]; rfl) ?_
      | refine pl_skip (i := 11) rfl rfl HS6.out rfl (by simp only [List.setIfInBounds_toArray, List.set_cons_succ, List.set_cons_zero]; rfl) ?_
    first
      | refine pl_get (i := 12) rfl rfl HS6.out rfl (fun u hu => by (try dsimp only at hu); go_simp; rfl) (by simp only [List.setIfInBounds_toArray, List.set_cons_succ, List.set_cons_zero]; rfl) ?_
      | refine pl_skip (i := 12) rfl rfl HS6.out rfl (by simp only [List.setIfInBounds_toArray, List.set_cons_succ, List.set_cons_zero]; rfl) ?_
    first
      | refine pl_get (i := 13) rfl rfl HS6.out rfl (fun u hu => by (try dsimp only at hu); go_simp; rfl) (by simp only [List.setIfInBounds_toArray, List.set_cons_succ, List.set_cons_zero]; rfl) ?_
      | refine pl_skip (i := 13) rfl rfl HS6.out rfl (by simp only [List.setIfInBounds_toArray, List.set_cons_succ, List.set_cons_zero]; rfl) ?_
    first
      | refine pl_get (i := 14) rfl rfl HS6.out rfl (fun u hu => by (try dsimp only at hu); go_simp; rfl) (by simp only [List.setIfInBounds_toArray, List.set_cons_succ, List.set_cons_zero]; rfl) ?_
      | refine pl_skip (i := 14) rfl rfl HS6.out rfl (by simp only [List.setIfInBounds_toArray, List.set_cons_succ, List.set_cons_zero]; rfl) ?_
    first
      | refine pl_get (i := 15) rfl rfl HS6.out rfl (fun u hu => by (try dsimp only at hu); go_simp; rfl) (by simp only [List.setIfInBounds_toArray, List.set_cons_succ, List.set_cons_zero]; rfl) ?_
      | refine pl_skip (i := 15) rfl rfl HS6.out rfl (by simp only [List.setIfInBounds_toArray, List.set_cons_succ, List.set_cons_zero]; rfl) ?_
    first
      | refine pl_get (i := 16) rfl rfl HS6.out rfl (fun u hu => by (try dsimp only at hu); go_simp; rfl) (by simp only [List.setIfInBounds_toArray, List.set_cons_succ, List.set_cons_zero]; rfl) ?_
      | refine pl_skip (i := 16) rfl rfl HS6.out rfl (by simp only [List.setIfInBounds_toArray, List.set_cons_succ, List.set_cons_zero]; rfl) ?_
    refine pl_one (i := 17) rfl ?_
    go_wp2_with ((go_at_call 17; refine (inval_all _ (b kw) (s kw) (HD6.out.nl kw hkw).D (by have := (HD6.out.nn kw hkw).hlen; unfold maxLen; omega) x.k ((W kw : Int) + 1) hxk).mono ?_; rintro _ w7 ⟨rfl, P7⟩))
    have HS7 := Lib.hid (HD6.out.inval hkw Hx.out P7)
    have b7 := P7.blk Hgb6.out (HD6.out.nl kw hkw).D (by decide) (by decide) (by decide) (by decide) (by decide) (by decide)
    have n7 := node_cell HS7.out hkw
    have p7 := place_cell HS7.out hkw
    have c7 := blk_cell b7 0
    have m7 := P7.K.some HS6.out.2.2.2 (fun e => (HD6.out.nl kw hkw).D.nk_sh (own_sh HO6.out g rfl) (by decide) (by decide) (by decide) (by decide) (by decide) (by decide) e)
    rw [upd_self] at p7
    simp at c7
    have HS8 := Lib.hid (show w7.cell? ⟨nb, kw, none⟩ = some (.pointer (some ⟨(b kw).nb, 0, none⟩)) ∧ w7.cell? ⟨gb, 0, none⟩ = some (.slice (some ⟨g, 0, none⟩) G.length gc) ∧ w7.cell? ⟨wb, kw, none⟩ = some (.int .i64 ((W kw : Int) + 1)) ∧ w7.cell? ⟨g, W kw * 7 + 4, none⟩ = some (.string x.k) from ⟨n7, c7, by simpa using p7, m7⟩)
    clear P7 b7 n7 p7 c7 m7
    refine pl_next (fun _ => HS8.out) ?_
    refine pl_done ?_
    have HSX := Lib.hid (HS7.out.le (Nat.le_succ k))
    go_wp2_with fail
    (try simp only [Exit.inBlock, Exit.then])
    unfold SwPost
    refine ⟨rfl, ?_⟩
    (repeat apply Exists.intro)
    exact ⟨rfl, HSX.out⟩
  · have d6 : decide ((W kw : Int) < (G.length : Int)) = false := decide_eq_false (by omega)
    have HS5 := Lib.hid (HD1.out.le (Nat.le_succ k))
    go_wp2_with fail
    (try simp only [Exit.inBlock, Exit.then])
    unfold SwPost
    refine ⟨rfl, ?_⟩
    (repeat apply Exists.intro)
    exact ⟨rfl, HS5.out⟩
end Go.Proofs.Ytieoejilppgebaa
