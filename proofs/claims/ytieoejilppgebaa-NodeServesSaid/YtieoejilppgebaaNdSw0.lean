/- Ways of the switch of NodeServes. -/
import Derived.Test.YtieoejilppgebaaNdSw
namespace Go.Proofs.Ytieoejilppgebaa
open Go Go.RowKit Go.Maps
set_option maxRecDepth 1000000
set_option maxHeartbeats 40000000 in
theorem sw_0 {w V : World} {nb wb gb ob : Nat} {b : Nat → NB} {G : List EN} {W : Nat → Nat} {s : Nat → NS} {RD : List RR} {ra : Option Addr} {rc k kw : Nat} {who ii : Int} {key text : ByteArray} (hkw : kw < 2) (hks : key.size ≤ 1000) (hts' : text.size ≤ 1000) (hk150 : k ≤ 150) (hop : wOk ⟨0, who, ii, key, text⟩) (hDV : SV w V nb wb gb b G W W s RD (.slice ra RD.length rc) k) (hbV : V.heap[ob]? = some (.cells #[.int .i64 0, .int .i64 who, .int .i64 ii, .string key, .string text] 58)) (c0 c1 c2 c3 c4 c5 c6 c11 c12 c15 c16 c17 c18 c19 c20 c21 c22 c23 c24 c25 c26 c27 c28 c29 c30 c31 c32 c33 c34 c35 c36 c37 c38 c39 c40 c41 c42 c43 c44 c45 c46 c47 c48 c49 c50 c51 c52 c53 c54 c55 c56 c57 c58 c59 c60 c61 c62 c63 c64 c65 c66 c67 c68 c69 c70 c71 c72 c73 c74 c75 c76 c77 c78 c79 c80 c81 c82 c83 c84 c85 c86 c87 c88 c89 c90 c91 c92 c93 c94 c95 c96 c97 c99 c100 c101 c102 c103 c104 c105 c106 c107 c108 c109 c110 c111 c112 c113 c114 c115 c116 c117 c118 c119 c120 c121 c122 c123 c124 c125 c126 c127 c128 c129 c130 c131 c132 c133 c134 c135 c136 c137 c138 c139 c140 c141 c142 c143 c144 c145 c146 c147 c148 c149 c150 c151 c152 c153 c154 c155 c156 c157 c158 c159 c160 c161 c162 c163 c164 c165 c166 c167 c168 c169 c170 c171 c172 c173 c174 c175 c176 c177 c178 c179 c180 c181 c182 c183 c184 c185 c186 c187 c188 c189 c190 c191 c192 c193 c194 c195 c196 c197 c198 c199 c200 c201 c202 c203 c204 c205 c206 c207 c208 c209 c210 c211 c212 c213 c214 c215 c216 c217 c218 c219 c220 c221 c222 c223 c224 c225 c226 c227 c228 c229 c230 c231 c232 c233 c234 c235 c236 c237 c238 c239 c240 c241 c242 c243 c244 c245 c246 c247 c248 c249 c250 c251 c252 c253 c254 c255 c256 c257 c258 c259 c260 c261 c262 c263 c264 c265 c266 c267 c268 c269 c270 c271 c272 c273 c274 c275 c276 c277 c278 c279 c280 c281 c282 c283 c284 c285 c286 c287 c288 c289 c290 c291 c292 c293 c294 c295 c296 c297 c298 c299 c300 c301 c302 c303 c304 c305 c306 c307 c308 c309 c310 c311 c312 c313 c314 c315 c316 c317 c318 c319 c320 c321 c322 c323 c324 c325 c326 c327 c328 c329 c330 c331 c332 c333 c334 c335 c336 c337 c338 c339 c340 c341 c342 c343 : Value) :
    Code.wp Try.prog sw (SwPost w nb wb gb ob b k kw c0 c1 c2 c3 c4 c5 c6 c11 c12 c20 c21 c22 c23 c24 c25 c26 c27 c28 c29 c30 c31 c32 c33 c34 c35 c36 c37 c38 c39 c40 c41 c42 c43 c44 c45 c46 c47 c48 c49 c50 c51 c52 c53 c54 c55 c56 c57 c58 c59 c60 c61 c62 c63 c64 c65 c66 c67 c68 c69 c70 c71 c72 c73 c74 c75 c76 c77 c78 c79 c80 c81 c82 c83 c84 c85 c86 c87 c88 c89 c90 c91 c92 c93 c94 c95 c96 c97 c301 c302 c303 c304 c305 c306 c307 c308 c309 c310 c311 c312 c313 c314 c315 c316 c317 c318 c319 c320 c321 c322 c323 c324 c325 c326 c327 c328 c329 c330 c331 c332 c333 c334 c335 c336 c337 c338 c339 c340 c341 c342 c343 (.int .i64 0)) ⟨#[c0, c1, c2, c3, c4, c5, c6, .pointer (some ⟨nb, 0, none⟩), .pointer (some ⟨gb, 0, none⟩), .pointer (some ⟨wb, 0, none⟩), .slice ra RD.length rc, c11, c12, .pointer (some ⟨ob, 0, none⟩), .int .i64 (kw : Int), c15, c16, c17, c18, c19, c20, c21, c22, c23, c24, c25, c26, c27, c28, c29, c30, c31, c32, c33, c34, c35, c36, c37, c38, c39, c40, c41, c42, c43, c44, c45, c46, c47, c48, c49, c50, c51, c52, c53, c54, c55, c56, c57, c58, c59, c60, c61, c62, c63, c64, c65, c66, c67, c68, c69, c70, c71, c72, c73, c74, c75, c76, c77, c78, c79, c80, c81, c82, c83, c84, c85, c86, c87, c88, c89, c90, c91, c92, c93, c94, c95, c96, c97, .int .i64 0, c99, c100, c101, c102, c103, c104, c105, c106, c107, c108, c109, c110, c111, c112, c113, c114, c115, c116, c117, c118, c119, c120, c121, c122, c123, c124, c125, c126, c127, c128, c129, c130, c131, c132, c133, c134, c135, c136, c137, c138, c139, c140, c141, c142, c143, c144, c145, c146, c147, c148, c149, c150, c151, c152, c153, c154, c155, c156, c157, c158, c159, c160, c161, c162, c163, c164, c165, c166, c167, c168, c169, c170, c171, c172, c173, c174, c175, c176, c177, c178, c179, c180, c181, c182, c183, c184, c185, c186, c187, c188, c189, c190, c191, c192, c193, c194, c195, c196, c197, c198, c199, c200, c201, c202, c203, c204, c205, c206, c207, c208, c209, c210, c211, c212, c213, c214, c215, c216, c217, c218, c219, c220, c221, c222, c223, c224, c225, c226, c227, c228, c229, c230, c231, c232, c233, c234, c235, c236, c237, c238, c239, c240, c241, c242, c243, c244, c245, c246, c247, c248, c249, c250, c251, c252, c253, c254, c255, c256, c257, c258, c259, c260, c261, c262, c263, c264, c265, c266, c267, c268, c269, c270, c271, c272, c273, c274, c275, c276, c277, c278, c279, c280, c281, c282, c283, c284, c285, c286, c287, c288, c289, c290, c291, c292, c293, c294, c295, c296, c297, c298, c299, c300, c301, c302, c303, c304, c305, c306, c307, c308, c309, c310, c311, c312, c313, c314, c315, c316, c317, c318, c319, c320, c321, c322, c323, c324, c325, c326, c327, c328, c329, c330, c331, c332, c333, c334, c335, c336, c337, c338, c339, c340, c341, c342, c343], []⟩ V := by
  have HDV := Lib.hid hDV
  have HbV := Lib.hid hbV
  have Hop := Lib.hid hop
  clear hDV hbV hop
  conv => arg 2; whnf
  obtain ⟨ga, gc, hgb, O⟩ := HDV.out.log
  have HO := Lib.hid O
  have Hgb := Lib.hid hgb
  have hGl : G.length ≤ 200 := by have := HDV.out.gl; omega
  have hw1 : IntKind.i64.wrap ((G.length : Int) + 1) = (G.length : Int) + 1 := IntWalk.i64_in _ (by omega)
  clear O
  go_wp2_with fail
  refine wp_region_pl (fun u => u.cell? ⟨gb, 0, none⟩ = some (.slice ga G.length gc) ∧ u.cell? ⟨ob, 3, none⟩ = some (.string key) ∧ u.cell? ⟨ob, 4, none⟩ = some (.string text)) [21] (.rd 0 (.rd 1 (.rd 2 (.rd 3 (.rd 4 (.rd 5 (.rd 6 (.rd 7 (.rd 8 (.rd 9 (.rd 10 (.rd 11 (.rd 12 (.rd 13 (.rd 14 (.rd 15 (.rd 16 (.one 17 (.one 18 (.one 19 (.rd 20 (.one 21 .done)))))))))))))))))))))) (by kernel_rfl) (by kernel_rfl) (by kernel_rfl) (by kernel_rfl) (by intro c b d v u h; first | (cases d <;> exact h) | exact Exit.noConfusion (And.left h : Exit.panic c = Exit.normal)) ?_
  have kd : Keep NoB V V.drew := (Keep.refl NoB V).drew
  have c0 := blk_cell (blk_keep hgb kd (fun h => h)) 0
  have bo := blk_keep HbV.out kd (fun h => h)
  have o3 := blk_cell bo 3
  have o4 := blk_cell bo 4
  simp at c0 o3 o4
  have HS := Lib.hid (show V.drew.cell? ⟨gb, 0, none⟩ = some (.slice ga G.length gc) ∧ V.drew.cell? ⟨ob, 3, none⟩ = some (.string key) ∧ V.drew.cell? ⟨ob, 4, none⟩ = some (.string text) from ⟨c0, o3, o4⟩)
  have Hkd := Lib.hid kd
  clear c0 kd bo o3 o4 hgb
  generalize V.drew = wd at HS Hkd ⊢
  first
    | refine pl_get (i := 0) rfl rfl HS.out rfl (fun u hu => by (try dsimp only at hu); go_simp; rfl) (by simp only [List.setIfInBounds_toArray, List.set_cons_succ, List.set_cons_zero]; rfl) ?_
    | refine pl_skip (i := 0) rfl rfl HS.out rfl (by simp only [List.setIfInBounds_toArray, List.set_cons_succ, List.set_cons_zero]; rfl) ?_
  first
    | refine pl_get (i := 1) rfl rfl HS.out rfl (fun u hu => by (try dsimp only at hu); go_simp; rfl) (by simp only [List.setIfInBounds_toArray, List.set_cons_succ, List.set_cons_zero]; rfl) ?_
    | refine pl_skip (i := 1) rfl rfl HS.out rfl (by simp only [List.setIfInBounds_toArray, List.set_cons_succ, List.set_cons_zero]; rfl) ?_
  first
    | refine pl_get (i := 2) rfl rfl HS.out rfl (fun u hu => by (try dsimp only at hu); go_simp; rfl) (by simp only [List.setIfInBounds_toArray, List.set_cons_succ, List.set_cons_zero]; rfl) ?_
    | refine pl_skip (i := 2) rfl rfl HS.out rfl (by simp only [List.setIfInBounds_toArray, List.set_cons_succ, List.set_cons_zero]; rfl) ?_
  first
    | refine pl_get (i := 3) rfl rfl HS.out rfl (fun u hu => by (try dsimp only at hu); go_simp; rfl) (by simp only [List.setIfInBounds_toArray, List.set_cons_succ, List.set_cons_zero]; rfl) ?_
    | refine pl_skip (i := 3) rfl rfl HS.out rfl (by simp only [List.setIfInBounds_toArray, List.set_cons_succ, List.set_cons_zero]; rfl) ?_
  first
    | refine pl_get (i := 4) rfl rfl HS.out rfl (fun u hu => by (try dsimp only at hu); go_simp; rfl) (by simp only [List.setIfInBounds_toArray, List.set_cons_succ, List.set_cons_zero]; rfl) ?_
    | refine pl_skip (i := 4) rfl rfl HS.out rfl (by simp only [List.setIfInBounds_toArray, List.set_cons_succ, List.set_cons_zero]; rfl) ?_
  first
    | refine pl_get (i := 5) rfl rfl HS.out rfl (fun u hu => by (try dsimp only at hu); go_simp; rfl) (by simp only [List.setIfInBounds_toArray, List.set_cons_succ, List.set_cons_zero]; rfl) ?_
    | refine pl_skip (i := 5) rfl rfl HS.out rfl (by simp only [List.setIfInBounds_toArray, List.set_cons_succ, List.set_cons_zero]; rfl) ?_
  first
    | refine pl_get (i := 6) rfl rfl HS.out rfl (fun u hu => by (try dsimp only at hu); go_simp; rfl) (by simp only [List.setIfInBounds_toArray, List.set_cons_succ, List.set_cons_zero]; rfl) ?_
    | refine pl_skip (i := 6) rfl rfl HS.out rfl (by simp only [List.setIfInBounds_toArray, List.set_cons_succ, List.set_cons_zero]; rfl) ?_
  first
    | refine pl_get (i := 7) rfl rfl HS.out rfl (fun u hu => by (try dsimp only at hu); go_simp; rfl) (by simp only [List.setIfInBounds_toArray, List.set_cons_succ, List.set_cons_zero]; rfl) ?_
    | refine pl_skip (i := 7) rfl rfl HS.out rfl (by simp only [List.setIfInBounds_toArray, List.set_cons_succ, List.set_cons_zero]; rfl) ?_
  first
    | refine pl_get (i := 8) rfl rfl HS.out rfl (fun u hu => by (try dsimp only at hu); go_simp; rfl) (by simp only [List.setIfInBounds_toArray, List.set_cons_succ, List.set_cons_zero]; rfl) ?_
    | refine pl_skip (i := 8) rfl rfl HS.out rfl (by simp only [List.setIfInBounds_toArray, List.set_cons_succ, List.set_cons_zero]; rfl) ?_
  first
    | refine pl_get (i := 9) rfl rfl HS.out rfl (fun u hu => by (try dsimp only at hu); go_simp; rfl) (by simp only [List.setIfInBounds_toArray, List.set_cons_succ, List.set_cons_zero]; rfl) ?_
    | refine pl_skip (i := 9) rfl rfl HS.out rfl (by simp only [List.setIfInBounds_toArray, List.set_cons_succ, List.set_cons_zero]; rfl) ?_
  first
    | refine pl_get (i := 10) rfl rfl HS.out rfl (fun u hu => by (try dsimp only at hu); go_simp; rfl) (by simp only [List.setIfInBounds_toArray, List.set_cons_succ, List.set_cons_zero]; rfl) ?_
    | refine pl_skip (i := 10) rfl rfl HS.out rfl (by simp only [List.setIfInBounds_toArray, List.set_cons_succ, List.set_cons_zero]; rfl) ?_
  first
    | refine pl_get (i := 11) rfl rfl HS.out rfl (fun u hu => by (try dsimp only at hu); go_simp; rfl) (by simp only [List.setIfInBounds_toArray, List.set_cons_succ, List.set_cons_zero]; rfl) ?_
    | refine pl_skip (i := 11) rfl rfl HS.out rfl (by simp only [List.setIfInBounds_toArray, List.set_cons_succ, List.set_cons_zero]; rfl) ?_
  first
    | refine pl_get (i := 12) rfl rfl HS.out rfl (fun u hu => by (try dsimp only at hu); go_simp; rfl) (by simp only [List.setIfInBounds_toArray, List.set_cons_succ, List.set_cons_zero]; rfl) ?_
    | refine pl_skip (i := 12) rfl rfl HS.out rfl (by simp only [List.setIfInBounds_toArray, List.set_cons_succ, List.set_cons_zero]; rfl) ?_
  first
    | refine pl_get (i := 13) rfl rfl HS.out rfl (fun u hu => by (try dsimp only at hu); go_simp; rfl) (by simp only [List.setIfInBounds_toArray, List.set_cons_succ, List.set_cons_zero]; rfl) ?_
    | refine pl_skip (i := 13) rfl rfl HS.out rfl (by simp only [List.setIfInBounds_toArray, List.set_cons_succ, List.set_cons_zero]; rfl) ?_
  first
    | refine pl_get (i := 14) rfl rfl HS.out rfl (fun u hu => by (try dsimp only at hu); go_simp; rfl) (by simp only [List.setIfInBounds_toArray, List.set_cons_succ, List.set_cons_zero]; rfl) ?_
    | refine pl_skip (i := 14) rfl rfl HS.out rfl (by simp only [List.setIfInBounds_toArray, List.set_cons_succ, List.set_cons_zero]; rfl) ?_
  first
    | refine pl_get (i := 15) rfl rfl HS.out rfl (fun u hu => by (try dsimp only at hu); go_simp; rfl) (by simp only [List.setIfInBounds_toArray, List.set_cons_succ, List.set_cons_zero]; rfl) ?_
    | refine pl_skip (i := 15) rfl rfl HS.out rfl (by simp only [List.setIfInBounds_toArray, List.set_cons_succ, List.set_cons_zero]; rfl) ?_
  first
    | refine pl_get (i := 16) rfl rfl HS.out rfl (fun u hu => by (try dsimp only at hu); go_simp; rfl) (by simp only [List.setIfInBounds_toArray, List.set_cons_succ, List.set_cons_zero]; rfl) ?_
    | refine pl_skip (i := 16) rfl rfl HS.out rfl (by simp only [List.setIfInBounds_toArray, List.set_cons_succ, List.set_cons_zero]; rfl) ?_
  refine pl_act (i := 17) rfl rfl rfl (exec_bs rfl rfl (bs55 wd ((G.length : Int) + 1) key text)) (by simp only [List.setIfInBounds_toArray, List.set_cons_succ, List.set_cons_zero]; rfl) ?_
  have kx : Keep NoB wd (wd.alloc (.cells #[.int .i64 1, .int .i64 ((G.length : Int) + 1), .int .i64 0, .int .i64 0, .string key, .bool false, .string text] 55)) := (Keep.refl NoB wd).alloc _
  have HS3 := Lib.hid (show (wd.alloc (.cells #[.int .i64 1, .int .i64 ((G.length : Int) + 1), .int .i64 0, .int .i64 0, .string key, .bool false, .string text] 55)).cell? ⟨gb, 0, none⟩ = some (.slice ga G.length gc) ∧ (wd.alloc (.cells #[.int .i64 1, .int .i64 ((G.length : Int) + 1), .int .i64 0, .int .i64 0, .string key, .bool false, .string text] 55)).cell? ⟨ob, 3, none⟩ = some (.string key) ∧ (wd.alloc (.cells #[.int .i64 1, .int .i64 ((G.length : Int) + 1), .int .i64 0, .int .i64 0, .string key, .bool false, .string text] 55)).cell? ⟨ob, 4, none⟩ = some (.string text) from ⟨kx.some HS.out.1 (fun h => h), kx.some HS.out.2.1 (fun h => h), kx.some HS.out.2.2 (fun h => h)⟩)
  refine pl_next (fun _ => HS3.out) ?_
  have ex := blk_new wd (.cells #[.int .i64 1, .int .i64 ((G.length : Int) + 1), .int .i64 0, .int .i64 0, .string key, .bool false, .string text] 55)
  have K3 := Lib.hid (Hkd.out.trans kx)
  have HO3 := Lib.hid (HO.out.keep K3.out (fun _ _ h => h))
  have HB3 := Lib.hid (HDV.out.keep0 K3.out)
  have hws3 : w.heap.size ≤ (wd.alloc (.cells #[.int .i64 1, .int .i64 ((G.length : Int) + 1), .int .i64 0, .int .i64 0, .string key, .bool false, .string text] 55)).heap.size := HB3.out.hk.size
  clear kx
  generalize wd.alloc (.cells #[.int .i64 1, .int .i64 ((G.length : Int) + 1), .int .i64 0, .int .i64 0, .string key, .bool false, .string text] 55) = we at ex K3 HO3 HS3 hws3 HB3 ⊢
  generalize wd.heap.size = eb at ex ⊢
  obtain ⟨G', hG'⟩ : ∃ l, G ++ [(⟨(G.length : Int) + 1, key, text⟩ : EN)] = l := ⟨_, rfl⟩
  have HG' := Lib.hid hG'
  clear hG'
  refine pl_one (i := 18) rfl ?_
  refine wpList_append_one (B := w.heap.size) rfl (.tmp 105) (.tmp 118) 48 rfl Try.underlying48 info55' (by kernel_rfl) (by decide) (by decide) rfl HO3.out enCells_len ⟨(G.length : Int) + 1, key, text⟩ rfl (c := #[.int .i64 1, .int .i64 ((G.length : Int) + 1), .int .i64 0, .int .i64 0, .string key, .bool false, .string text]) (t' := 55) (f := (0, 0)) ex rfl (enCells_one _) (by omega) hws3 HG'.out ?_
  intro a4 c4 w4 O4 k4
  have Hgb3 := Lib.hid (blk_keep Hgb.out K3.out (fun h => h))
  have hgo4 : ∀ g, (Value.slice ga G.length gc).ownBlock = some g → g ≠ gb := fun g hg => HO3.out.ne Hgb3.out (by decide) g hg
  have bg4 := blk_keep Hgb3.out k4 (fun e => hgo4 gb e rfl)
  have bo4 := blk_keep (blk_keep HbV.out K3.out (fun h => h)) k4 (fun e => HO3.out.ne (blk_keep HbV.out K3.out (fun h => h)) (by decide) ob e rfl)
  have g0 := blk_cell bg4 0
  have o3 := blk_cell bo4 3
  have o4 := blk_cell bo4 4
  have gf := blk_free bg4 0
  have gl := blk_lt bg4
  simp at g0 o3 o4
  have HS4 := Lib.hid (show w4.cell? ⟨gb, 0, none⟩ = some (.slice ga G.length gc) ∧ w4.cell? ⟨ob, 3, none⟩ = some (.string key) ∧ w4.cell? ⟨ob, 4, none⟩ = some (.string text) from ⟨g0, o3, o4⟩)
  have HO4 := Lib.hid O4
  have Hk4 := Lib.hid k4
  have Hbg4 := Lib.hid bg4
  clear O4 k4 bg4 bo4 ex hws3 HS3 HS o3 o4
  refine pl_next (fun _ => HS4.out) ?_
  (try simp only [Act.put, List.getElem_toArray, List.getElem_cons_succ, List.getElem_cons_zero, List.setIfInBounds_toArray, List.set_cons_succ, List.set_cons_zero])
  refine pl_one (i := 19) rfl ?_
  go_wp2_with (fail)
  refine pl_next (fun _ => HS4.out) ?_
  first
    | refine pl_get (i := 20) rfl rfl HS4.out rfl (fun u hu => by (try dsimp only at hu); go_simp; rfl) (by simp only [List.setIfInBounds_toArray, List.set_cons_succ, List.set_cons_zero]; rfl) ?_
    | refine pl_skip (i := 20) rfl rfl HS4.out rfl (by simp only [List.setIfInBounds_toArray, List.set_cons_succ, List.set_cons_zero]; rfl) ?_
  refine pl_one (i := 21) rfl ?_
  go_wp2_with (fail)
  have b5 := blk_setCell (i := 0) Hbg4.out (.slice a4 G'.length c4)
  have K5 := (Keep.refl (OneB gb) w4).setCell (p := ⟨gb, 0, none⟩) (Or.inr rfl) (.slice a4 G'.length c4)
  simp at b5
  generalize World.setCell _ _ _ = w5 at b5 K5 ⊢
  refine pl_next (fun h => by cases h) ?_
  refine pl_done ?_
  have hlo := HB3.out.lo
  have K45 : Keep (fun q => (Value.slice ga G.length gc).ownBlock = some q ∨ q = gb) we w5 := (Hk4.out.mono (fun q h => Or.inl h)).trans (K5.mono (fun q h => Or.inr h))
  have hlow : ∀ q, q < w.heap.size → ¬ ((Value.slice ga G.length gc).ownBlock = some q ∨ q = gb) := by
    rintro q hq (h | h)
    · have := HO3.out.fresh q h; omega
    · omega
  have hO5 : Own w5 w.heap.size 55 7 enCells (.slice a4 G'.length c4) G' := HO4.out.keep K5 (fun g hg e => (HO4.out.ne Hbg4.out (by decide) g hg) e)
  have hL5 : LG w w5 gb G' := ⟨a4, c4, b5, hO5⟩
  have HS5 := Lib.hid (HB3.out.app K45 (fun q h => h.elim (fun h => Or.inr (own_sh HO3.out q h)) Or.inl) ⟨(G.length : Int) + 1, key, text⟩ (by rw [HG'.out]; exact hL5) ⟨hks, hts'⟩ hlow)
  clear b5 K5 K45 hlow hO5 hL5 g0 gf gl
  go_wp2_with fail
  (try simp only [Exit.inBlock, Exit.then])
  unfold SwPost
  refine ⟨rfl, ?_⟩
  (repeat apply Exists.intro)
  exact ⟨rfl, HS5.out⟩
end Go.Proofs.Ytieoejilppgebaa
