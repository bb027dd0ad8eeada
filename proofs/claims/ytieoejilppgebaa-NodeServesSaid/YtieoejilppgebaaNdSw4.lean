/- Ways of the switch of NodeServes. -/
import Derived.Test.YtieoejilppgebaaNdSw
namespace Go.Proofs.Ytieoejilppgebaa
open Go Go.RowKit Go.Maps
set_option maxRecDepth 1000000
set_option maxHeartbeats 40000000 in
theorem sw_4 {w V : World} {nb wb gb ob : Nat} {b : Nat → NB} {G : List EN} {W : Nat → Nat} {s : Nat → NS} {RD : List RR} {ra : Option Addr} {rc k kw : Nat} {who ii : Int} {key text : ByteArray} (hkw : kw < 2) (hks : key.size ≤ 1000) (hts' : text.size ≤ 1000) (hk150 : k ≤ 150) (hop : wOk ⟨4, who, ii, key, text⟩) (hDV : SV w V nb wb gb b G W W s RD (.slice ra RD.length rc) k) (hbV : V.heap[ob]? = some (.cells #[.int .i64 4, .int .i64 who, .int .i64 ii, .string key, .string text] 58)) (c0 c1 c2 c3 c4 c5 c6 c11 c12 c15 c16 c17 c18 c19 c20 c21 c22 c23 c24 c25 c26 c27 c28 c29 c30 c31 c32 c33 c34 c35 c36 c37 c38 c39 c40 c41 c42 c43 c44 c45 c46 c47 c48 c49 c50 c51 c52 c53 c54 c55 c56 c57 c58 c59 c60 c61 c62 c63 c64 c65 c66 c67 c68 c69 c70 c71 c72 c73 c74 c75 c76 c77 c78 c79 c80 c81 c82 c83 c84 c85 c86 c87 c88 c89 c90 c91 c92 c93 c94 c95 c96 c97 c99 c100 c101 c102 c103 c104 c105 c106 c107 c108 c109 c110 c111 c112 c113 c114 c115 c116 c117 c118 c119 c120 c121 c122 c123 c124 c125 c126 c127 c128 c129 c130 c131 c132 c133 c134 c135 c136 c137 c138 c139 c140 c141 c142 c143 c144 c145 c146 c147 c148 c149 c150 c151 c152 c153 c154 c155 c156 c157 c158 c159 c160 c161 c162 c163 c164 c165 c166 c167 c168 c169 c170 c171 c172 c173 c174 c175 c176 c177 c178 c179 c180 c181 c182 c183 c184 c185 c186 c187 c188 c189 c190 c191 c192 c193 c194 c195 c196 c197 c198 c199 c200 c201 c202 c203 c204 c205 c206 c207 c208 c209 c210 c211 c212 c213 c214 c215 c216 c217 c218 c219 c220 c221 c222 c223 c224 c225 c226 c227 c228 c229 c230 c231 c232 c233 c234 c235 c236 c237 c238 c239 c240 c241 c242 c243 c244 c245 c246 c247 c248 c249 c250 c251 c252 c253 c254 c255 c256 c257 c258 c259 c260 c261 c262 c263 c264 c265 c266 c267 c268 c269 c270 c271 c272 c273 c274 c275 c276 c277 c278 c279 c280 c281 c282 c283 c284 c285 c286 c287 c288 c289 c290 c291 c292 c293 c294 c295 c296 c297 c298 c299 c300 c301 c302 c303 c304 c305 c306 c307 c308 c309 c310 c311 c312 c313 c314 c315 c316 c317 c318 c319 c320 c321 c322 c323 c324 c325 c326 c327 c328 c329 c330 c331 c332 c333 c334 c335 c336 c337 c338 c339 c340 c341 c342 c343 : Value) :
    Code.wp Try.prog sw (SwPost w nb wb gb ob b k kw c0 c1 c2 c3 c4 c5 c6 c11 c12 c20 c21 c22 c23 c24 c25 c26 c27 c28 c29 c30 c31 c32 c33 c34 c35 c36 c37 c38 c39 c40 c41 c42 c43 c44 c45 c46 c47 c48 c49 c50 c51 c52 c53 c54 c55 c56 c57 c58 c59 c60 c61 c62 c63 c64 c65 c66 c67 c68 c69 c70 c71 c72 c73 c74 c75 c76 c77 c78 c79 c80 c81 c82 c83 c84 c85 c86 c87 c88 c89 c90 c91 c92 c93 c94 c95 c96 c97 c301 c302 c303 c304 c305 c306 c307 c308 c309 c310 c311 c312 c313 c314 c315 c316 c317 c318 c319 c320 c321 c322 c323 c324 c325 c326 c327 c328 c329 c330 c331 c332 c333 c334 c335 c336 c337 c338 c339 c340 c341 c342 c343 (.int .i64 4)) ⟨#[c0, c1, c2, c3, c4, c5, c6, .pointer (some ⟨nb, 0, none⟩), .pointer (some ⟨gb, 0, none⟩), .pointer (some ⟨wb, 0, none⟩), .slice ra RD.length rc, c11, c12, .pointer (some ⟨ob, 0, none⟩), .int .i64 (kw : Int), c15, c16, c17, c18, c19, c20, c21, c22, c23, c24, c25, c26, c27, c28, c29, c30, c31, c32, c33, c34, c35, c36, c37, c38, c39, c40, c41, c42, c43, c44, c45, c46, c47, c48, c49, c50, c51, c52, c53, c54, c55, c56, c57, c58, c59, c60, c61, c62, c63, c64, c65, c66, c67, c68, c69, c70, c71, c72, c73, c74, c75, c76, c77, c78, c79, c80, c81, c82, c83, c84, c85, c86, c87, c88, c89, c90, c91, c92, c93, c94, c95, c96, c97, .int .i64 4, c99, c100, c101, c102, c103, c104, c105, c106, c107, c108, c109, c110, c111, c112, c113, c114, c115, c116, c117, c118, c119, c120, c121, c122, c123, c124, c125, c126, c127, c128, c129, c130, c131, c132, c133, c134, c135, c136, c137, c138, c139, c140, c141, c142, c143, c144, c145, c146, c147, c148, c149, c150, c151, c152, c153, c154, c155, c156, c157, c158, c159, c160, c161, c162, c163, c164, c165, c166, c167, c168, c169, c170, c171, c172, c173, c174, c175, c176, c177, c178, c179, c180, c181, c182, c183, c184, c185, c186, c187, c188, c189, c190, c191, c192, c193, c194, c195, c196, c197, c198, c199, c200, c201, c202, c203, c204, c205, c206, c207, c208, c209, c210, c211, c212, c213, c214, c215, c216, c217, c218, c219, c220, c221, c222, c223, c224, c225, c226, c227, c228, c229, c230, c231, c232, c233, c234, c235, c236, c237, c238, c239, c240, c241, c242, c243, c244, c245, c246, c247, c248, c249, c250, c251, c252, c253, c254, c255, c256, c257, c258, c259, c260, c261, c262, c263, c264, c265, c266, c267, c268, c269, c270, c271, c272, c273, c274, c275, c276, c277, c278, c279, c280, c281, c282, c283, c284, c285, c286, c287, c288, c289, c290, c291, c292, c293, c294, c295, c296, c297, c298, c299, c300, c301, c302, c303, c304, c305, c306, c307, c308, c309, c310, c311, c312, c313, c314, c315, c316, c317, c318, c319, c320, c321, c322, c323, c324, c325, c326, c327, c328, c329, c330, c331, c332, c333, c334, c335, c336, c337, c338, c339, c340, c341, c342, c343], []⟩ V := by
  have HDV := Lib.hid hDV
  have HbV := Lib.hid hbV
  have Hop := Lib.hid hop
  clear hDV hbV hop
  conv => arg 2; whnf
  obtain ⟨⟨xv, ok⟩, hp⟩ : ∃ p, nPk (s 0) key = p := ⟨_, rfl⟩
  have Hp := Lib.hid hp
  have hkm : key.size ≤ maxLen := by unfold maxLen; omega
  have n0 := node_cell HDV.out (i := 0) (by decide)
  have nl := blk_lt HDV.out.nodes
  have o3 := blk_cell HbV.out 3
  have ol := blk_lt HbV.out
  simp at o3
  clear hp
  go_wp2_with fail
  refine (npeek_any _ (b 0) (s 0) (HDV.out.nl 0 (by decide)).D key hkm xv ok Hp.out).mono ?_
  rintro _ w5 ⟨rfl, k5⟩
  have kx : Keep NoB w5 (w5.alloc (.cells #[.int .i64 xv.e, .int .i64 xv.i, .bool xv.th, .string xv.tx] 29)) := (Keep.refl NoB w5).alloc _
  have HD4 := Lib.hid (HDV.out.keep0 k5)
  have Hb4 := Lib.hid (blk_keep HbV.out k5 (fun h => h))
  have HD5 := Lib.hid (HDV.out.keep0 (k5.trans kx))
  have Hb5 := Lib.hid (blk_keep HbV.out (k5.trans kx) (fun h => h))
  have x5 := blk_new w5 (.cells #[.int .i64 xv.e, .int .i64 xv.i, .bool xv.th, .string xv.tx] 29)
  clear n0 nl o3 ol kx
  cases ok
  · go_wp2_with fail
    have HS5 := Lib.hid (HD5.out.le (Nat.le_succ k))
    go_wp2_with fail
    (try simp only [Exit.inBlock, Exit.then])
    unfold SwPost
    refine ⟨rfl, ?_⟩
    (repeat apply Exists.intro)
    exact ⟨rfl, HS5.out⟩
  · have hf : ∃ x, It.fnd (s 0).N key = some x ∧ x.v = xv := by
      have h := Hp.out
      unfold nPk at h
      split at h
      · cases h
      · cases hf : It.fnd (s 0).N key with
        | none => rw [pk_none hf] at h; cases h
        | some x => rw [pk_some hf] at h; cases h; exact ⟨x, rfl, rfl⟩
    obtain ⟨x, hfx, rfl⟩ := hf
    obtain ⟨av, hav, hav2, hav3⟩ := (HD5.out.nn 0 (by decide)).items x (fnd_mem hfx)
    rw [fnd_key hfx] at hav3
    obtain ⟨mx, hmx⟩ : ∃ n, max av (W 0) = n := ⟨_, rfl⟩
    have hmi : (if av < W 0 then ((W 0 : Nat) : Int) else ((av : Nat) : Int)) = (mx : Int) := by split <;> omega
    rw [hmx] at hav3
    have hts5 : x.v.tx.size ≤ 1000 := by
      have h := atI_ts (G := G) (key := key) (n := mx) (fun y hy => (HD5.out.gk y hy).2)
      rw [← hav3] at h
      exact h
    have hmG : mx ≤ G.length := by have := (HD5.out.nn 0 (by decide)).w; omega
    have hmW : W 0 ≤ mx := by omega
    have Hav3 := Lib.hid hav3
    obtain ⟨sz, hsz⟩ : ∃ q, (key.size : Int) + (x.v.tx.size : Int) + 32 = q := ⟨_, rfl⟩
    have Hsz := Lib.hid hsz
    have hszb : sz ≤ 1000000000 := by omega
    have HmG := Lib.hid hmG
    have HmW := Lib.hid hmW
    clear hsz hmx hav3 hfx Hp hmG hmW
    have n1 := node_cell HD4.out (i := 1) (by decide)
    have nl := blk_lt HD4.out.nodes
    have p0 := place_cell HD4.out (i := 0) (by decide)
    have pl := blk_lt HD4.out.ws
    have o3 := blk_cell Hb4.out 3
    have ol := blk_lt Hb4.out
    simp at o3
    clear x5
    go_wp2_with fail
    refine (warm_any _ (b 1) (s 1) (HD5.out.nl 1 (by decide)).D key ⟨x.v.e, x.v.i, x.v.th, x.v.tx, (mx : Int)⟩ hkm sz Hsz.out hszb (by have := (HD5.out.nn 1 (by decide)).nlen; omega)).mono ?_
    rintro _ w7 ⟨s7, r7, hR, rfl, P7⟩
    obtain ⟨q1, q2, q3, q4⟩ := sv_warm (v := ⟨x.v.e, x.v.i, x.v.th, x.v.tx, (mx : Int)⟩) (HD5.out.nn 1 (by decide)) HD5.out.co ⟨mx, rfl, HmG.out, HmW.out, Hav3.out⟩ hR
    have HS7 := Lib.hid (HD5.out.op4 (i := 1) (by decide) P7 q1 (Nat.le_succ k) q2 (fun r hr => hr.same q3 q4))
    clear P7 hR q1 q2 q3 q4 n1 nl p0 pl o3 ol hmi hav hav2
    go_wp2_with fail
    (try simp only [Exit.inBlock, Exit.then])
    unfold SwPost
    refine ⟨rfl, ?_⟩
    (repeat apply Exists.intro)
    exact ⟨rfl, HS7.out⟩
end Go.Proofs.Ytieoejilppgebaa
