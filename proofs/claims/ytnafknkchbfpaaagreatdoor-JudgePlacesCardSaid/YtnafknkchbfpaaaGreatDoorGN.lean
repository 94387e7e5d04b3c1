import Derived.Test.YtnafknkchbfpaaaGreatDoorGK
set_option linter.unusedVariables false
set_option linter.unusedSimpArgs false
set_option maxRecDepth 1000000
set_option maxHeartbeats 8000000
namespace Go.Proofs.YtnafknkchbfpaaaGreatDoor
open Go.RowKit Go.Bl
theorem qek (x : UInt32) : IntKind.u32.wrap (wN x * 16777216) = wN (x <<< 24) := UZ x 24 qa
theorem qeJ (x : UInt32) : IntKind.u32.wrap (wN x * 65536) = wN (x <<< 16) := UZ x 16 qa
theorem qeT (x : UInt32) : IntKind.u32.wrap (wN x * 256) = wN (x <<< 8) := UZ x 8 qa
theorem w_conv (c : UInt8) : IntKind.u32.wrap (c.toNat : Int) = wN c.toUInt32 := by
 rw [UR, IntKind.wrap_u32]
 have := c.toNat_lt
 omega
theorem qG (a : Go.Act) (hs : a.tmps.size = 305) (hd : a.defers = []) : a = ⟨(slot a 0 :: slot a 1 :: slot a 2 :: slot a 3 :: slot a 4 :: slot a 5 :: slot a 6 :: slot a 7 :: slot a 8 :: slot a 9 :: slot a 10 :: slot a 11 :: slot a 12 :: slot a 13 :: slot a 14 :: slot a 15 :: slot a 16 :: slot a 17 :: slot a 18 :: slot a 19 :: slot a 20 :: slot a 21 :: slot a 22 :: slot a 23 :: slot a 24 :: slot a 25 :: slot a 26 :: slot a 27 :: slot a 28 :: slot a 29 :: slot a 30 :: slot a 31 :: slot a 32 :: slot a 33 :: slot a 34 :: slot a 35 :: slot a 36 :: slot a 37 :: slot a 38 :: slot a 39 :: slot a 40 :: slot a 41 :: slot a 42 :: slot a 43 :: slot a 44 :: slot a 45 :: slot a 46 :: slot a 47 :: slot a 48 :: slot a 49 :: slot a 50 :: slot a 51 :: slot a 52 :: slot a 53 :: slot a 54 :: slot a 55 :: slot a 56 :: slot a 57 :: slot a 58 :: slot a 59 :: slot a 60 :: slot a 61 :: slot a 62 :: slot a 63 :: slot a 64 :: slot a 65 :: slot a 66 :: slot a 67 :: slot a 68 :: slot a 69 :: slot a 70 :: slot a 71 :: slot a 72 :: slot a 73 :: slot a 74 :: slot a 75 :: slot a 76 :: slot a 77 :: slot a 78 :: slot a 79 :: slot a 80 :: slot a 81 :: slot a 82 :: slot a 83 :: slot a 84 :: slot a 85 :: slot a 86 :: slot a 87 :: slot a 88 :: slot a 89 :: slot a 90 :: slot a 91 :: slot a 92 :: slot a 93 :: slot a 94 :: slot a 95 :: slot a 96 :: slot a 97 :: slot a 98 :: slot a 99 :: slot a 100 :: slot a 101 :: slot a 102 :: slot a 103 :: slot a 104 :: slot a 105 :: slot a 106 :: slot a 107 :: slot a 108 :: slot a 109 :: slot a 110 :: slot a 111 :: slot a 112 :: slot a 113 :: slot a 114 :: slot a 115 :: slot a 116 :: slot a 117 :: slot a 118 :: slot a 119 :: slot a 120 :: slot a 121 :: slot a 122 :: slot a 123 :: slot a 124 :: slot a 125 :: slot a 126 :: slot a 127 :: slot a 128 :: slot a 129 :: slot a 130 :: slot a 131 :: slot a 132 :: slot a 133 :: slot a 134 :: slot a 135 :: slot a 136 :: slot a 137 :: slot a 138 :: slot a 139 :: slot a 140 :: slot a 141 :: slot a 142 :: slot a 143 :: slot a 144 :: slot a 145 :: slot a 146 :: slot a 147 :: slot a 148 :: slot a 149 :: slot a 150 :: slot a 151 :: slot a 152 :: slot a 153 :: slot a 154 :: slot a 155 :: slot a 156 :: slot a 157 :: slot a 158 :: slot a 159 :: slot a 160 :: slot a 161 :: slot a 162 :: slot a 163 :: slot a 164 :: slot a 165 :: slot a 166 :: slot a 167 :: slot a 168 :: slot a 169 :: slot a 170 :: slot a 171 :: slot a 172 :: slot a 173 :: slot a 174 :: slot a 175 :: slot a 176 :: slot a 177 :: slot a 178 :: slot a 179 :: slot a 180 :: slot a 181 :: slot a 182 :: slot a 183 :: slot a 184 :: slot a 185 :: slot a 186 :: slot a 187 :: slot a 188 :: slot a 189 :: slot a 190 :: slot a 191 :: slot a 192 :: slot a 193 :: slot a 194 :: slot a 195 :: slot a 196 :: slot a 197 :: slot a 198 :: slot a 199 :: slot a 200 :: slot a 201 :: slot a 202 :: slot a 203 :: slot a 204 :: slot a 205 :: slot a 206 :: slot a 207 :: slot a 208 :: slot a 209 :: slot a 210 :: slot a 211 :: slot a 212 :: slot a 213 :: slot a 214 :: slot a 215 :: slot a 216 :: slot a 217 :: slot a 218 :: slot a 219 :: slot a 220 :: slot a 221 :: slot a 222 :: slot a 223 :: slot a 224 :: slot a 225 :: slot a 226 :: slot a 227 :: slot a 228 :: slot a 229 :: slot a 230 :: slot a 231 :: slot a 232 :: slot a 233 :: slot a 234 :: slot a 235 :: slot a 236 :: slot a 237 :: slot a 238 :: slot a 239 :: slot a 240 :: slot a 241 :: slot a 242 :: slot a 243 :: slot a 244 :: slot a 245 :: slot a 246 :: slot a 247 :: slot a 248 :: slot a 249 :: slot a 250 :: slot a 251 :: slot a 252 :: slot a 253 :: slot a 254 :: slot a 255 :: slot a 256 :: slot a 257 :: slot a 258 :: slot a 259 :: slot a 260 :: slot a 261 :: slot a 262 :: slot a 263 :: slot a 264 :: slot a 265 :: slot a 266 :: slot a 267 :: slot a 268 :: slot a 269 :: slot a 270 :: slot a 271 :: slot a 272 :: slot a 273 :: slot a 274 :: slot a 275 :: slot a 276 :: slot a 277 :: slot a 278 :: slot a 279 :: slot a 280 :: slot a 281 :: slot a 282 :: slot a 283 :: slot a 284 :: slot a 285 :: slot a 286 :: slot a 287 :: slot a 288 :: slot a 289 :: slot a 290 :: slot a 291 :: slot a 292 :: slot a 293 :: slot a 294 :: slot a 295 :: slot a 296 :: slot a 297 :: slot a 298 :: slot a 299 :: slot a 300 :: slot a 301 :: slot a 302 :: slot a 303 :: slot a 304 :: []).toArray, []⟩ := uO a 305 hs hd
noncomputable def qbe : Code := ((Tryz.f31.body.bind (qr 17)).getD .skip)
theorem qcZ (w : World) (a : Go.Act) (hsz : a.tmps.size = 305) (bb wb en cap o t q : Nat) (ws : List UInt32) (xs : List UInt8) (hws : WAt w wb 158 ws) (hxs : ∀ j, j < en -> w.cell? ⟨bb, j, none⟩ = some (.int .u8 ((xs.getD j 0).toNat : Int))) (hwl : ws.length = 64) (ht : t < 16) (hq : o + 4 * t = q) (hqn : q + 4 <= en) (hen : en <= 200000000) (h3 : slot a 3 = .slice (some ⟨bb, 0, none⟩) en cap) (h7 : slot a 7 = .int .i64 (o : Int)) (h8 : slot a 8 = .pointer (some ⟨wb, 0, none⟩)) (h9 : slot a 9 = .int .i64 (t : Int)) (Q : Exit -> Go.Act -> World -> Prop)
  (hQ : ∀ (b : Go.Act) (p : World), b.defers = a.defers -> b.tmps.size = 305 -> (∀ s, s ∉ ([68, 69, 70, 71, 72, 73, 74, 75, 76, 77, 78, 79, 80, 81, 82, 83, 84, 85, 86, 87, 88, 89, 90, 91, 92, 93, 94, 95, 96, 97, 98, 99, 100, 101, 102, 103, 104, 105, 106, 107, 108, 109, 110] : List Nat) -> slot b s = slot a s) -> Fr [wb] w p -> WAt p wb 158 (ws.set t ((xs.getD q 0).toUInt32 <<< UInt32.ofNat 24 ||| (xs.getD (q + 1) 0).toUInt32 <<< UInt32.ofNat 16 ||| (xs.getD (q + 2) 0).toUInt32 <<< UInt32.ofNat 8 ||| (xs.getD (q + 3) 0).toUInt32)) -> Q .normal b p) : Code.wp Tryz.prog qbe Q a w := by
 conv => arg 2; whnf
 refine qV qb qb [some 68, some 69, some 70, some 71, some 72, some 73, some 74, some 75, some 76, some 77, some 78, some 79, some 80, some 81, some 82, some 83, some 84, some 85, some 86, some 87, some 88, some 89, some 90, some 91, some 92, some 93, some 94, some 95, some 96, some 97, some 98, some 99, some 100, some 101, some 102, some 103, some 104, some 105, some 106, some 107, some 108, some 109, some 110, none] [43] [.rd (.int .i64 (t : Int)) 1, .rd (.slice (some ⟨bb, 0, none⟩) en cap) 1, .rd (.int .i64 (o : Int)) 1, .rd (.int .i64 (t : Int)) 1, .rd (.int .i64 ((4 * t : Nat) : Int)) 1, .rd (.int .i64 ((q : Nat) : Int)) 1, .rd (.pointer (some ⟨bb, q, none⟩)) 1, .rd (.int .u8 ((xs.getD q 0).toNat : Int)) 0, .rd (.int .u32 (wN ((xs.getD q 0).toUInt32))) 1, .rd (.int .u32 (wN ((xs.getD q 0).toUInt32 <<< UInt32.ofNat 24))) 1, .rd (.slice (some ⟨bb, 0, none⟩) en cap) 1, .rd (.int .i64 (o : Int)) 1, .rd (.int .i64 (t : Int)) 1, .rd (.int .i64 ((4 * t : Nat) : Int)) 1, .rd (.int .i64 ((q : Nat) : Int)) 1, .rd (.int .i64 ((q + 1 : Nat) : Int)) 1, .rd (.pointer (some ⟨bb, q + 1, none⟩)) 1, .rd (.int .u8 ((xs.getD (q + 1) 0).toNat : Int)) 0, .rd (.int .u32 (wN ((xs.getD (q + 1) 0).toUInt32))) 1, .rd (.int .u32 (wN ((xs.getD (q + 1) 0).toUInt32 <<< UInt32.ofNat 16))) 1, .rd (.int .u32 (wN ((xs.getD q 0).toUInt32 <<< UInt32.ofNat 24 ||| (xs.getD (q + 1) 0).toUInt32 <<< UInt32.ofNat 16))) 1, .rd (.slice (some ⟨bb, 0, none⟩) en cap) 1, .rd (.int .i64 (o : Int)) 1, .rd (.int .i64 (t : Int)) 1, .rd (.int .i64 ((4 * t : Nat) : Int)) 1, .rd (.int .i64 ((q : Nat) : Int)) 1, .rd (.int .i64 ((q + 2 : Nat) : Int)) 1, .rd (.pointer (some ⟨bb, q + 2, none⟩)) 1, .rd (.int .u8 ((xs.getD (q + 2) 0).toNat : Int)) 0, .rd (.int .u32 (wN ((xs.getD (q + 2) 0).toUInt32))) 1, .rd (.int .u32 (wN ((xs.getD (q + 2) 0).toUInt32 <<< UInt32.ofNat 8))) 1, .rd (.int .u32 (wN ((xs.getD q 0).toUInt32 <<< UInt32.ofNat 24 ||| (xs.getD (q + 1) 0).toUInt32 <<< UInt32.ofNat 16 ||| (xs.getD (q + 2) 0).toUInt32 <<< UInt32.ofNat 8))) 1, .rd (.slice (some ⟨bb, 0, none⟩) en cap) 1, .rd (.int .i64 (o : Int)) 1, .rd (.int .i64 (t : Int)) 1, .rd (.int .i64 ((4 * t : Nat) : Int)) 1, .rd (.int .i64 ((q : Nat) : Int)) 1, .rd (.int .i64 ((q + 3 : Nat) : Int)) 1, .rd (.pointer (some ⟨bb, q + 3, none⟩)) 1, .rd (.int .u8 ((xs.getD (q + 3) 0).toNat : Int)) 0, .rd (.int .u32 (wN ((xs.getD (q + 3) 0).toUInt32))) 1, .rd (.int .u32 (wN ((xs.getD q 0).toUInt32 <<< UInt32.ofNat 24 ||| (xs.getD (q + 1) 0).toUInt32 <<< UInt32.ofNat 16 ||| (xs.getD (q + 2) 0).toUInt32 <<< UInt32.ofNat 8 ||| (xs.getD (q + 3) 0).toUInt32))) 1, .rd (.pointer (some ⟨wb, t, none⟩)) 1, .st 0] (fun cj => undef) (fun s g p => Fr [wb] w p /\ (s <= 0 -> WAt p wb 158 (ws) /\ ∀ j, j < en -> p.cell? ⟨bb, j, none⟩ = some (.int .u8 ((xs.getD j 0).toNat : Int))) /\ (0 < s -> WAt p wb 158 (ws.set t ((xs.getD q 0).toUInt32 <<< UInt32.ofNat 24 ||| (xs.getD (q + 1) 0).toUInt32 <<< UInt32.ofNat 16 ||| (xs.getD (q + 2) 0).toUInt32 <<< UInt32.ofNat 8 ||| (xs.getD (q + 3) 0).toUInt32)))) qb Y72 Y94 qb qb qa ?_ ⟨?_, ?_, ?_, ?_, ?_, ?_, ?_, ?_, ?_, ?_, ?_, ?_, ?_, ?_, ?_, ?_, ?_, ?_, ?_, ?_, ?_, ?_, ?_, ?_, ?_, ?_, ?_, ?_, ?_, ?_, ?_, ?_, ?_, ?_, ?_, ?_, ?_, ?_, ?_, ?_, ?_, ?_, ?_, ?_, trivial⟩ ?_
 ·intro w1 hw1
  exact ⟨fun _ => undef, ⟨(hw1).weak, fun _ => ⟨hws.keep0 hw1, fun j hj => qs hw1 qc (hxs j hj)⟩, fun hk => absurd hk qa⟩⟩
 ·refine ⟨⟨68, rfl⟩, .inl rfl, fun b p s g hs hlow hS h => ?_⟩
  have e0 := h.eo qa h9
  exact Y0
 ·refine ⟨⟨69, rfl⟩, .inl rfl, fun b p s g hs hlow hS h => ?_⟩
  have e0 := h.eo qa h3
  exact Y0
 ·refine ⟨⟨70, rfl⟩, .inl rfl, fun b p s g hs hlow hS h => ?_⟩
  have e0 := h.eo qa h7
  exact Y0
 ·refine ⟨⟨71, rfl⟩, .inl rfl, fun b p s g hs hlow hS h => ?_⟩
  have e0 := h.eo qa h9
  exact Y0
 ·refine ⟨⟨72, rfl⟩, .inl rfl, fun b p s g hs hlow hS h => ?_⟩
  have e0 := h.er 3 71 qb rfl rfl
  exact Y14
 ·refine ⟨⟨73, rfl⟩, .inl rfl, fun b p s g hs hlow hS h => ?_⟩
  have e0 := h.er 2 70 qb rfl rfl
  have e1 := h.er 4 72 qb rfl rfl
  exact Y13
 ·refine ⟨⟨74, rfl⟩, .inl rfl, fun b p s g hs hlow hS h => ?_⟩
  have e0 := h.er 1 69 qb rfl rfl
  have e1 := h.er 5 73 qb rfl rfl
  refine gw0 rfl rfl ?_
  obtain ⟨ρ, hρ, ec⟩ := evx b
  rw [hρ] at e0 e1 ⊢
  unfold execOp; simp [go_sem, e0, e1, ec, show (q : Int) < (en : Int) by omega, show q < en by omega]
 ·refine ⟨⟨75, rfl⟩, .inr ⟨43, rfl, by kernel_rfl⟩, fun b p s g hs hlow hS h => ?_⟩
  have e0 := h.er 6 74 qb rfl rfl
  obtain ⟨hf, m0, m1⟩ := hS
  have c0 := (show p.cell? ⟨bb, q, none⟩ = some (.int .u8 ((xs.getD q 0).toNat : Int)) from ((m0 hs).2 (q) Y66))
  exact Y2
 ·refine ⟨⟨76, rfl⟩, .inl rfl, fun b p s g hs hlow hS h => ?_⟩
  have e0 := h.er 7 75 qb rfl rfl
  exact Y21
 ·refine ⟨⟨77, rfl⟩, .inl rfl, fun b p s g hs hlow hS h => ?_⟩
  have e0 := h.er 8 76 qb rfl rfl
  refine gw0 rfl rfl ?_
  obtain ⟨ρ, hρ, ec⟩ := evx b
  rw [hρ] at e0 ⊢
  unfold execOp; simp [go_sem, e0, ec, qek]
 ·refine ⟨⟨78, rfl⟩, .inl rfl, fun b p s g hs hlow hS h => ?_⟩
  have e0 := h.eo qa h3
  exact Y0
 ·refine ⟨⟨79, rfl⟩, .inl rfl, fun b p s g hs hlow hS h => ?_⟩
  have e0 := h.eo qa h7
  exact Y0
 ·refine ⟨⟨80, rfl⟩, .inl rfl, fun b p s g hs hlow hS h => ?_⟩
  have e0 := h.eo qa h9
  exact Y0
 ·refine ⟨⟨81, rfl⟩, .inl rfl, fun b p s g hs hlow hS h => ?_⟩
  have e0 := h.er 12 80 qb rfl rfl
  exact Y14
 ·refine ⟨⟨82, rfl⟩, .inl rfl, fun b p s g hs hlow hS h => ?_⟩
  have e0 := h.er 11 79 qb rfl rfl
  have e1 := h.er 13 81 qb rfl rfl
  exact Y13
 ·refine ⟨⟨83, rfl⟩, .inl rfl, fun b p s g hs hlow hS h => ?_⟩
  have e0 := h.er 14 82 qb rfl rfl
  refine gw0 rfl rfl ?_
  obtain ⟨ρ, hρ, ec⟩ := evx b
  rw [hρ] at e0 ⊢
  unfold execOp; simp [go_sem, e0, ec, show IntKind.i64.wrap ((q : Int) + 1) = (q : Int) + 1 by rw [IntKind.wrap_i64]; omega]
 ·refine ⟨⟨84, rfl⟩, .inl rfl, fun b p s g hs hlow hS h => ?_⟩
  have e0 := h.er 10 78 qb rfl rfl
  have e1 := h.er 15 83 qb rfl rfl
  refine gw0 rfl rfl ?_
  obtain ⟨ρ, hρ, ec⟩ := evx b
  rw [hρ] at e0 e1 ⊢
  unfold execOp; simp [go_sem, e0, e1, ec, show (q : Int) + 1 < (en : Int) by omega, show (0 : Int) <= (q : Int) + 1 by omega, show ¬ (en : Int) <= (q : Int) + 1 by omega, show q + 1 < en by omega]
 ·refine ⟨⟨85, rfl⟩, .inr ⟨43, rfl, by kernel_rfl⟩, fun b p s g hs hlow hS h => ?_⟩
  have e0 := h.er 16 84 qb rfl rfl
  obtain ⟨hf, m0, m1⟩ := hS
  have c0 := (show p.cell? ⟨bb, q + 1, none⟩ = some (.int .u8 ((xs.getD (q + 1) 0).toNat : Int)) from ((m0 hs).2 (q + 1) Y66))
  exact Y2
 ·refine ⟨⟨86, rfl⟩, .inl rfl, fun b p s g hs hlow hS h => ?_⟩
  have e0 := h.er 17 85 qb rfl rfl
  exact Y21
 ·refine ⟨⟨87, rfl⟩, .inl rfl, fun b p s g hs hlow hS h => ?_⟩
  have e0 := h.er 18 86 qb rfl rfl
  refine gw0 rfl rfl ?_
  obtain ⟨ρ, hρ, ec⟩ := evx b
  rw [hρ] at e0 ⊢
  unfold execOp; simp [go_sem, e0, ec, qeJ]
 ·refine ⟨⟨88, rfl⟩, .inl rfl, fun b p s g hs hlow hS h => ?_⟩
  have e0 := h.er 9 77 qb rfl rfl
  have e1 := h.er 19 87 qb rfl rfl
  exact Y28
 ·refine ⟨⟨89, rfl⟩, .inl rfl, fun b p s g hs hlow hS h => ?_⟩
  have e0 := h.eo qa h3
  exact Y0
 ·refine ⟨⟨90, rfl⟩, .inl rfl, fun b p s g hs hlow hS h => ?_⟩
  have e0 := h.eo qa h7
  exact Y0
 ·refine ⟨⟨91, rfl⟩, .inl rfl, fun b p s g hs hlow hS h => ?_⟩
  have e0 := h.eo qa h9
  exact Y0
 ·refine ⟨⟨92, rfl⟩, .inl rfl, fun b p s g hs hlow hS h => ?_⟩
  have e0 := h.er 23 91 qb rfl rfl
  exact Y14
 ·refine ⟨⟨93, rfl⟩, .inl rfl, fun b p s g hs hlow hS h => ?_⟩
  have e0 := h.er 22 90 qb rfl rfl
  have e1 := h.er 24 92 qb rfl rfl
  exact Y13
 ·refine ⟨⟨94, rfl⟩, .inl rfl, fun b p s g hs hlow hS h => ?_⟩
  have e0 := h.er 25 93 qb rfl rfl
  refine gw0 rfl rfl ?_
  obtain ⟨ρ, hρ, ec⟩ := evx b
  rw [hρ] at e0 ⊢
  unfold execOp; simp [go_sem, e0, ec, show IntKind.i64.wrap ((q : Int) + 2) = (q : Int) + 2 by rw [IntKind.wrap_i64]; omega]
 ·refine ⟨⟨95, rfl⟩, .inl rfl, fun b p s g hs hlow hS h => ?_⟩
  have e0 := h.er 21 89 qb rfl rfl
  have e1 := h.er 26 94 qb rfl rfl
  refine gw0 rfl rfl ?_
  obtain ⟨ρ, hρ, ec⟩ := evx b
  rw [hρ] at e0 e1 ⊢
  unfold execOp; simp [go_sem, e0, e1, ec, show (q : Int) + 2 < (en : Int) by omega, show (0 : Int) <= (q : Int) + 2 by omega, show ¬ (en : Int) <= (q : Int) + 2 by omega, show q + 2 < en by omega]
 ·refine ⟨⟨96, rfl⟩, .inr ⟨43, rfl, by kernel_rfl⟩, fun b p s g hs hlow hS h => ?_⟩
  have e0 := h.er 27 95 qb rfl rfl
  obtain ⟨hf, m0, m1⟩ := hS
  have c0 := (show p.cell? ⟨bb, q + 2, none⟩ = some (.int .u8 ((xs.getD (q + 2) 0).toNat : Int)) from ((m0 hs).2 (q + 2) Y66))
  exact Y2
 ·refine ⟨⟨97, rfl⟩, .inl rfl, fun b p s g hs hlow hS h => ?_⟩
  have e0 := h.er 28 96 qb rfl rfl
  exact Y21
 ·refine ⟨⟨98, rfl⟩, .inl rfl, fun b p s g hs hlow hS h => ?_⟩
  have e0 := h.er 29 97 qb rfl rfl
  refine gw0 rfl rfl ?_
  obtain ⟨ρ, hρ, ec⟩ := evx b
  rw [hρ] at e0 ⊢
  unfold execOp; simp [go_sem, e0, ec, qeT]
 ·refine ⟨⟨99, rfl⟩, .inl rfl, fun b p s g hs hlow hS h => ?_⟩
  have e0 := h.er 20 88 qb rfl rfl
  have e1 := h.er 30 98 qb rfl rfl
  exact Y28
 ·refine ⟨⟨100, rfl⟩, .inl rfl, fun b p s g hs hlow hS h => ?_⟩
  have e0 := h.eo qa h3
  exact Y0
 ·refine ⟨⟨101, rfl⟩, .inl rfl, fun b p s g hs hlow hS h => ?_⟩
  have e0 := h.eo qa h7
  exact Y0
 ·refine ⟨⟨102, rfl⟩, .inl rfl, fun b p s g hs hlow hS h => ?_⟩
  have e0 := h.eo qa h9
  exact Y0
 ·refine ⟨⟨103, rfl⟩, .inl rfl, fun b p s g hs hlow hS h => ?_⟩
  have e0 := h.er 34 102 qb rfl rfl
  exact Y14
 ·refine ⟨⟨104, rfl⟩, .inl rfl, fun b p s g hs hlow hS h => ?_⟩
  have e0 := h.er 33 101 qb rfl rfl
  have e1 := h.er 35 103 qb rfl rfl
  exact Y13
 ·refine ⟨⟨105, rfl⟩, .inl rfl, fun b p s g hs hlow hS h => ?_⟩
  have e0 := h.er 36 104 qb rfl rfl
  refine gw0 rfl rfl ?_
  obtain ⟨ρ, hρ, ec⟩ := evx b
  rw [hρ] at e0 ⊢
  unfold execOp; simp [go_sem, e0, ec, show IntKind.i64.wrap ((q : Int) + 3) = (q : Int) + 3 by rw [IntKind.wrap_i64]; omega]
 ·refine ⟨⟨106, rfl⟩, .inl rfl, fun b p s g hs hlow hS h => ?_⟩
  have e0 := h.er 32 100 qb rfl rfl
  have e1 := h.er 37 105 qb rfl rfl
  refine gw0 rfl rfl ?_
  obtain ⟨ρ, hρ, ec⟩ := evx b
  rw [hρ] at e0 e1 ⊢
  unfold execOp; simp [go_sem, e0, e1, ec, show (q : Int) + 3 < (en : Int) by omega, show (0 : Int) <= (q : Int) + 3 by omega, show ¬ (en : Int) <= (q : Int) + 3 by omega, show q + 3 < en by omega]
 ·refine ⟨⟨107, rfl⟩, .inr ⟨43, rfl, by kernel_rfl⟩, fun b p s g hs hlow hS h => ?_⟩
  have e0 := h.er 38 106 qb rfl rfl
  obtain ⟨hf, m0, m1⟩ := hS
  have c0 := (show p.cell? ⟨bb, q + 3, none⟩ = some (.int .u8 ((xs.getD (q + 3) 0).toNat : Int)) from ((m0 hs).2 (q + 3) Y66))
  exact Y2
 ·refine ⟨⟨108, rfl⟩, .inl rfl, fun b p s g hs hlow hS h => ?_⟩
  have e0 := h.er 39 107 qb rfl rfl
  exact Y21
 ·refine ⟨⟨109, rfl⟩, .inl rfl, fun b p s g hs hlow hS h => ?_⟩
  have e0 := h.er 31 99 qb rfl rfl
  have e1 := h.er 40 108 qb rfl rfl
  exact Y28
 ·refine ⟨⟨110, rfl⟩, .inl rfl, fun b p s g hs hlow hS h => ?_⟩
  have e0 := h.eo qa h8
  have e1 := h.er 0 68 qb rfl rfl
  exact Y18
 ·refine ⟨rfl, .inl rfl, fun b p g hS h => ?_⟩
  have e0 := h.er 42 110 qb rfl rfl
  have e1 := h.er 41 109 qb rfl rfl
  obtain ⟨hf, m0, m1⟩ := hS
  have hp := (m0 qa).1
  refine uw (K := fun _ p => Fr [wb] w p /\ WAt p wb 158 (ws.set t ((xs.getD q 0).toUInt32 <<< UInt32.ofNat 24 ||| (xs.getD (q + 1) 0).toUInt32 <<< UInt32.ofNat 16 ||| (xs.getD (q + 2) 0).toUInt32 <<< UInt32.ofNat 8 ||| (xs.getD (q + 3) 0).toUInt32))) (fun v p hv => ⟨⟨hv.1, fun hk => absurd hk qa, fun _ => hv.2⟩, .inl rfl⟩) ?_
  obtain ⟨cur, k1, k2, -, k4⟩ := x7 hp
  refine jq (K := fun _ p => Fr [wb] w p /\ WAt p wb 158 (ws.set t ((xs.getD q 0).toUInt32 <<< UInt32.ofNat 24 ||| (xs.getD (q + 1) 0).toUInt32 <<< UInt32.ofNat 16 ||| (xs.getD (q + 2) 0).toUInt32 <<< UInt32.ofNat 8 ||| (xs.getD (q + 3) 0).toUInt32))) _ Y72 ?_
  refine qh (.tmp 110) (.tmp 109) rfl rfl (.int .u32 (wN ((xs.getD q 0).toUInt32 <<< UInt32.ofNat 24 ||| (xs.getD (q + 1) 0).toUInt32 <<< UInt32.ofNat 16 ||| (xs.getD (q + 2) 0).toUInt32 <<< UInt32.ofNat 8 ||| (xs.getD (q + 3) 0).toUInt32))) e0 e1 k1 (by have := k2; omega) qb rfl ?_
  intro p1 f1 a1 _
  exact ⟨rfl, rfl, hf.trans f1, k4 p1 (t) _ a1⟩
 ·exact Y10
theorem xl (x : UInt32) (n : Nat) (h1 : 1 <= n) (h2 : n <= 31) (w : World) : Calls Tryz.prog 81 #[.int .u32 (wN x), .int .u64 (n : Int)] w fun e w' => e = .returned (.int .u32 (wN (qv x n))) /\ Fr [] w w' :=
 (yy x n h1 h2 w).mono fun e w' h => ⟨h.1, h.2 ▸ Fr.refl _ _⟩
theorem qeg (x : UInt32) : wN x / 1024 = wN (za x 10) := JH x 10 qa
theorem qfd (x : UInt32) : wN x / 8 = wN (za x 3) := JH x 3 qa
noncomputable def qcV : Code := ((Tryz.f31.body.bind (qr 22)).getD .skip)
theorem qeo (w : World) (a : Go.Act) (hsz : a.tmps.size = 305) (wb t : Nat) (ws : List UInt32) (hws : WAt w wb 158 ws) (hwl : ws.length = 64) (h16 : 16 <= t) (h64 : t < 64) (h8 : slot a 8 = .pointer (some ⟨wb, 0, none⟩)) (h10 : slot a 10 = .int .i64 (t : Int)) (h11 : slot a 11 = .int .u32 (wN ((ws.getD (t - 2) 0)))) (h12 : slot a 12 = .int .u32 (wN ((ws.getD (t - 15) 0)))) (Q : Exit -> Go.Act -> World -> Prop)
  (hQ : ∀ (b : Go.Act) (p : World), b.defers = a.defers -> b.tmps.size = 305 -> (∀ s, s ∉ ([123, 124, 125, 126, 127, 128, 129, 130, 131, 132, 133, 134, 135, 136, 137, 138, 139, 140, 141, 142, 143, 144, 145, 146, 147, 148, 149, 150, 151] : List Nat) -> slot b s = slot a s) -> Fr [wb] w p -> WAt p wb 158 (ws.set t ((qv (ws.getD (t - 2) 0) 17 ^^^ qv (ws.getD (t - 2) 0) 19 ^^^ za (ws.getD (t - 2) 0) 10) + ws.getD (t - 7) 0 + (qv (ws.getD (t - 15) 0) 7 ^^^ qv (ws.getD (t - 15) 0) 18 ^^^ za (ws.getD (t - 15) 0) 3) + ws.getD (t - 16) 0)) -> Q .normal b p) : Code.wp Tryz.prog qcV Q a w := by
 conv => arg 2; whnf
 refine qV qb qb [some 123, some 124, some 125, some 126, some 127, some 128, some 129, some 130, some 131, some 132, some 133, some 134, some 135, some 136, some 137, some 138, some 139, some 140, some 141, some 142, some 143, some 144, some 145, some 146, some 147, some 148, some 149, some 150, some 151, none] [2, 4, 15, 17, 29] [.rd (.int .i64 (t : Int)) 5, .rd (.int .u32 (wN ((ws.getD (t - 2) 0)))) 5, .st 0, .rd (.int .u32 (wN ((ws.getD (t - 2) 0)))) 5, .st 1, .rd (.int .u32 (wN (qv (ws.getD (t - 2) 0) 17 ^^^ qv (ws.getD (t - 2) 0) 19))) 5, .rd (.int .u32 (wN ((ws.getD (t - 2) 0)))) 5, .rd (.int .u32 (wN (za (ws.getD (t - 2) 0) 10))) 5, .rd (.int .u32 (wN (qv (ws.getD (t - 2) 0) 17 ^^^ qv (ws.getD (t - 2) 0) 19 ^^^ za (ws.getD (t - 2) 0) 10))) 5, .rd (.int .i64 (t : Int)) 5, .rd (.int .i64 ((t - 7 : Nat) : Int)) 5, .rd (.pointer (some ⟨wb, t - 7, none⟩)) 5, .rd (.int .u32 (wN (ws.getD (t - 7) 0))) 4, .rd (.int .u32 (wN ((qv (ws.getD (t - 2) 0) 17 ^^^ qv (ws.getD (t - 2) 0) 19 ^^^ za (ws.getD (t - 2) 0) 10) + ws.getD (t - 7) 0))) 5, .rd (.int .u32 (wN ((ws.getD (t - 15) 0)))) 5, .st 2, .rd (.int .u32 (wN ((ws.getD (t - 15) 0)))) 5, .st 3, .rd (.int .u32 (wN (qv (ws.getD (t - 15) 0) 7 ^^^ qv (ws.getD (t - 15) 0) 18))) 5, .rd (.int .u32 (wN ((ws.getD (t - 15) 0)))) 5, .rd (.int .u32 (wN (za (ws.getD (t - 15) 0) 3))) 5, .rd (.int .u32 (wN (qv (ws.getD (t - 15) 0) 7 ^^^ qv (ws.getD (t - 15) 0) 18 ^^^ za (ws.getD (t - 15) 0) 3))) 5, .rd (.int .u32 (wN ((qv (ws.getD (t - 2) 0) 17 ^^^ qv (ws.getD (t - 2) 0) 19 ^^^ za (ws.getD (t - 2) 0) 10) + ws.getD (t - 7) 0 + (qv (ws.getD (t - 15) 0) 7 ^^^ qv (ws.getD (t - 15) 0) 18 ^^^ za (ws.getD (t - 15) 0) 3)))) 5, .rd (.int .i64 (t : Int)) 5, .rd (.int .i64 ((t - 16 : Nat) : Int)) 5, .rd (.pointer (some ⟨wb, t - 16, none⟩)) 5, .rd (.int .u32 (wN (ws.getD (t - 16) 0))) 4, .rd (.int .u32 (wN ((qv (ws.getD (t - 2) 0) 17 ^^^ qv (ws.getD (t - 2) 0) 19 ^^^ za (ws.getD (t - 2) 0) 10) + ws.getD (t - 7) 0 + (qv (ws.getD (t - 15) 0) 7 ^^^ qv (ws.getD (t - 15) 0) 18 ^^^ za (ws.getD (t - 15) 0) 3) + ws.getD (t - 16) 0))) 5, .rd (.pointer (some ⟨wb, t, none⟩)) 5, .st 4] (fun cj => if cj = 0 then (.int .u32 (wN (qv (ws.getD (t - 2) 0) 17))) else if cj = 1 then (.int .u32 (wN (qv (ws.getD (t - 2) 0) 19))) else if cj = 2 then (.int .u32 (wN (qv (ws.getD (t - 15) 0) 7))) else if cj = 3 then (.int .u32 (wN (qv (ws.getD (t - 15) 0) 18))) else undef) (fun s g p => Fr [wb] w p /\ (s <= 4 -> WAt p wb 158 (ws)) /\ (4 < s -> WAt p wb 158 (ws.set t ((qv (ws.getD (t - 2) 0) 17 ^^^ qv (ws.getD (t - 2) 0) 19 ^^^ za (ws.getD (t - 2) 0) 10) + ws.getD (t - 7) 0 + (qv (ws.getD (t - 15) 0) 7 ^^^ qv (ws.getD (t - 15) 0) 18 ^^^ za (ws.getD (t - 15) 0) 3) + ws.getD (t - 16) 0)))) qb Y72 Y94 qb qb qa ?_ ⟨?_, ?_, ?_, ?_, ?_, ?_, ?_, ?_, ?_, ?_, ?_, ?_, ?_, ?_, ?_, ?_, ?_, ?_, ?_, ?_, ?_, ?_, ?_, ?_, ?_, ?_, ?_, ?_, ?_, ?_, trivial⟩ ?_
 ·intro w1 hw1
  exact ⟨fun _ => undef, ⟨(hw1).weak, fun _ => hws.keep0 hw1, fun hk => absurd hk qa⟩⟩
 ·refine ⟨⟨123, rfl⟩, .inl rfl, fun b p s g hs hlow hS h => ?_⟩
  have e0 := h.eo qa h10
  exact Y0
 ·refine ⟨⟨124, rfl⟩, .inl rfl, fun b p s g hs hlow hS h => ?_⟩
  have e0 := h.eo qa h11
  exact Y0
 ·refine ⟨rfl, .inl rfl, fun b p g hS h => ?_⟩
  have e0 := h.er 1 124 qb rfl rfl
  have e1 : b.eval (.const (.int .u64 17)) = .int .u64 17 := rfl
  obtain ⟨hf, m0, m1⟩ := hS
  refine qJ _ Y72 (ql rfl) 81 _ _ rfl #[.int .u32 (wN ((ws.getD (t - 2) 0))), .int .u64 17] Y68 Y74 ((xl (ws.getD (t - 2) 0) 17 qa qa p).mono ?_)
  exact Y8
 ·refine ⟨⟨126, rfl⟩, .inl rfl, fun b p s g hs hlow hS h => ?_⟩
  have e0 := h.eo qa h11
  exact Y0
 ·refine ⟨rfl, .inr ⟨2, rfl, by kernel_rfl⟩, fun b p g hS h => ?_⟩
  have e0 := h.er 3 126 qb rfl rfl
  have e1 : b.eval (.const (.int .u64 19)) = .int .u64 19 := rfl
  obtain ⟨hf, m0, m1⟩ := hS
  refine qJ _ Y72 (ql rfl) 81 _ _ rfl #[.int .u32 (wN ((ws.getD (t - 2) 0))), .int .u64 19] Y68 Y74 ((xl (ws.getD (t - 2) 0) 19 qa qa p).mono ?_)
  exact Y8
 ·refine ⟨⟨128, rfl⟩, .inl rfl, fun b p s g hs hlow hS h => ?_⟩
  have e0 := (show b.eval (.tmp 125) = .int .u32 (wN (qv (ws.getD (t - 2) 0) 17)) from h.st 2 _ 125 qb rfl rfl)
  have e1 := (show b.eval (.tmp 127) = .int .u32 (wN (qv (ws.getD (t - 2) 0) 19)) from h.st 4 _ 127 qb rfl rfl)
  exact Y11
 ·refine ⟨⟨129, rfl⟩, .inl rfl, fun b p s g hs hlow hS h => ?_⟩
  have e0 := h.eo qa h11
  exact Y0
 ·refine ⟨⟨130, rfl⟩, .inl rfl, fun b p s g hs hlow hS h => ?_⟩
  have e0 := h.er 6 129 qb rfl rfl
  refine gw0 rfl rfl ?_
  obtain ⟨ρ, hρ, ec⟩ := evx b
  rw [hρ] at e0 ⊢
  unfold execOp; simp [go_sem, e0, ec, qeg]
 ·refine ⟨⟨131, rfl⟩, .inl rfl, fun b p s g hs hlow hS h => ?_⟩
  have e0 := h.er 5 128 qb rfl rfl
  have e1 := h.er 7 130 qb rfl rfl
  exact Y11
 ·refine ⟨⟨132, rfl⟩, .inl rfl, fun b p s g hs hlow hS h => ?_⟩
  have e0 := h.eo qa h10
  exact Y0
 ·refine ⟨⟨133, rfl⟩, .inl rfl, fun b p s g hs hlow hS h => ?_⟩
  have e0 := h.er 9 132 qb rfl rfl
  exact Y37
 ·refine ⟨⟨134, rfl⟩, .inl rfl, fun b p s g hs hlow hS h => ?_⟩
  have e0 := h.eo qa h8
  have e1 := h.er 10 133 qb rfl rfl
  exact Y45
 ·refine ⟨⟨135, rfl⟩, .inr ⟨29, rfl, by kernel_rfl⟩, fun b p s g hs hlow hS h => ?_⟩
  have e0 := h.er 11 134 qb rfl rfl
  obtain ⟨hf, m0, m1⟩ := hS
  have c0 := (show p.cell? ⟨wb, t - 7, none⟩ = some (.int .u32 (wN (ws.getD (t - 7) 0))) from (WAt.cell (m0 hs) Y66))
  exact Y2
 ·refine ⟨⟨136, rfl⟩, .inl rfl, fun b p s g hs hlow hS h => ?_⟩
  have e0 := h.er 8 131 qb rfl rfl
  have e1 := h.er 12 135 qb rfl rfl
  exact Y6
 ·refine ⟨⟨137, rfl⟩, .inl rfl, fun b p s g hs hlow hS h => ?_⟩
  have e0 := h.eo qa h12
  exact Y0
 ·refine ⟨rfl, .inr ⟨4, rfl, by kernel_rfl⟩, fun b p g hS h => ?_⟩
  have e0 := h.er 14 137 qb rfl rfl
  have e1 : b.eval (.const (.int .u64 7)) = .int .u64 7 := rfl
  obtain ⟨hf, m0, m1⟩ := hS
  refine qJ _ Y72 (ql rfl) 81 _ _ rfl #[.int .u32 (wN ((ws.getD (t - 15) 0))), .int .u64 7] Y68 Y74 ((xl (ws.getD (t - 15) 0) 7 qa qa p).mono ?_)
  exact Y8
 ·refine ⟨⟨139, rfl⟩, .inl rfl, fun b p s g hs hlow hS h => ?_⟩
  have e0 := h.eo qa h12
  exact Y0
 ·refine ⟨rfl, .inr ⟨15, rfl, by kernel_rfl⟩, fun b p g hS h => ?_⟩
  have e0 := h.er 16 139 qb rfl rfl
  have e1 : b.eval (.const (.int .u64 18)) = .int .u64 18 := rfl
  obtain ⟨hf, m0, m1⟩ := hS
  refine qJ _ Y72 (ql rfl) 81 _ _ rfl #[.int .u32 (wN ((ws.getD (t - 15) 0))), .int .u64 18] Y68 Y74 ((xl (ws.getD (t - 15) 0) 18 qa qa p).mono ?_)
  exact Y8
 ·refine ⟨⟨141, rfl⟩, .inl rfl, fun b p s g hs hlow hS h => ?_⟩
  have e0 := (show b.eval (.tmp 138) = .int .u32 (wN (qv (ws.getD (t - 15) 0) 7)) from h.st 15 _ 138 qb rfl rfl)
  have e1 := (show b.eval (.tmp 140) = .int .u32 (wN (qv (ws.getD (t - 15) 0) 18)) from h.st 17 _ 140 qb rfl rfl)
  exact Y11
 ·refine ⟨⟨142, rfl⟩, .inl rfl, fun b p s g hs hlow hS h => ?_⟩
  have e0 := h.eo qa h12
  exact Y0
 ·refine ⟨⟨143, rfl⟩, .inl rfl, fun b p s g hs hlow hS h => ?_⟩
  have e0 := h.er 19 142 qb rfl rfl
  refine gw0 rfl rfl ?_
  obtain ⟨ρ, hρ, ec⟩ := evx b
  rw [hρ] at e0 ⊢
  unfold execOp; simp [go_sem, e0, ec, qfd]
 ·refine ⟨⟨144, rfl⟩, .inl rfl, fun b p s g hs hlow hS h => ?_⟩
  have e0 := h.er 18 141 qb rfl rfl
  have e1 := h.er 20 143 qb rfl rfl
  exact Y11
 ·refine ⟨⟨145, rfl⟩, .inl rfl, fun b p s g hs hlow hS h => ?_⟩
  have e0 := h.er 13 136 qb rfl rfl
  have e1 := h.er 21 144 qb rfl rfl
  exact Y6
 ·refine ⟨⟨146, rfl⟩, .inl rfl, fun b p s g hs hlow hS h => ?_⟩
  have e0 := h.eo qa h10
  exact Y0
 ·refine ⟨⟨147, rfl⟩, .inl rfl, fun b p s g hs hlow hS h => ?_⟩
  have e0 := h.er 23 146 qb rfl rfl
  exact Y35
 ·refine ⟨⟨148, rfl⟩, .inl rfl, fun b p s g hs hlow hS h => ?_⟩
  have e0 := h.eo qa h8
  have e1 := h.er 24 147 qb rfl rfl
  exact Y43
 ·refine ⟨⟨149, rfl⟩, .inr ⟨29, rfl, by kernel_rfl⟩, fun b p s g hs hlow hS h => ?_⟩
  have e0 := h.er 25 148 qb rfl rfl
  obtain ⟨hf, m0, m1⟩ := hS
  have c0 := (show p.cell? ⟨wb, t - 16, none⟩ = some (.int .u32 (wN (ws.getD (t - 16) 0))) from (WAt.cell (m0 hs) Y66))
  exact Y2
 ·refine ⟨⟨150, rfl⟩, .inl rfl, fun b p s g hs hlow hS h => ?_⟩
  have e0 := h.er 22 145 qb rfl rfl
  have e1 := h.er 26 149 qb rfl rfl
  exact Y6
 ·refine ⟨⟨151, rfl⟩, .inl rfl, fun b p s g hs hlow hS h => ?_⟩
  have e0 := h.eo qa h8
  have e1 := h.er 0 123 qb rfl rfl
  exact Y18
 ·refine ⟨rfl, .inr ⟨17, rfl, by kernel_rfl⟩, fun b p g hS h => ?_⟩
  have e0 := h.er 28 151 qb rfl rfl
  have e1 := h.er 27 150 qb rfl rfl
  obtain ⟨hf, m0, m1⟩ := hS
  have hp := m0 qa
  refine uw (K := fun _ p => Fr [wb] w p /\ WAt p wb 158 (ws.set t ((qv (ws.getD (t - 2) 0) 17 ^^^ qv (ws.getD (t - 2) 0) 19 ^^^ za (ws.getD (t - 2) 0) 10) + ws.getD (t - 7) 0 + (qv (ws.getD (t - 15) 0) 7 ^^^ qv (ws.getD (t - 15) 0) 18 ^^^ za (ws.getD (t - 15) 0) 3) + ws.getD (t - 16) 0))) (fun v p hv => ⟨⟨hv.1, fun hk => absurd hk qa, fun _ => hv.2⟩, .inl rfl⟩) ?_
  obtain ⟨cur, k1, k2, -, k4⟩ := x7 hp
  refine jq (K := fun _ p => Fr [wb] w p /\ WAt p wb 158 (ws.set t ((qv (ws.getD (t - 2) 0) 17 ^^^ qv (ws.getD (t - 2) 0) 19 ^^^ za (ws.getD (t - 2) 0) 10) + ws.getD (t - 7) 0 + (qv (ws.getD (t - 15) 0) 7 ^^^ qv (ws.getD (t - 15) 0) 18 ^^^ za (ws.getD (t - 15) 0) 3) + ws.getD (t - 16) 0))) _ Y72 ?_
  refine qh (.tmp 151) (.tmp 150) rfl rfl (.int .u32 (wN ((qv (ws.getD (t - 2) 0) 17 ^^^ qv (ws.getD (t - 2) 0) 19 ^^^ za (ws.getD (t - 2) 0) 10) + ws.getD (t - 7) 0 + (qv (ws.getD (t - 15) 0) 7 ^^^ qv (ws.getD (t - 15) 0) 18 ^^^ za (ws.getD (t - 15) 0) 3) + ws.getD (t - 16) 0))) e0 e1 k1 (by have := k2; omega) qb rfl ?_
  intro p1 f1 a1 _
  exact ⟨rfl, rfl, hf.trans f1, k4 p1 (t) _ a1⟩
 ·exact Y10
end Go.Proofs.YtnafknkchbfpaaaGreatDoor
