import Derived.Test.YtnafknkchbfpaaaGreatDoorGK
set_option maxRecDepth 1000000
set_option maxHeartbeats 8000000
namespace Go.Proofs.YtnafknkchbfpaaaGreatDoor
open Go.RowKit Go.Bl
set_option linter.unusedVariables false
theorem qc5 (x : UInt32) : IntKind.u32.wrap (wN x * 16777216) = wN (x <<< 24) := ZX x 24 qe
theorem qcG (x : UInt32) : IntKind.u32.wrap (wN x * 65536) = wN (x <<< 16) := ZX x 16 qe
theorem qdR (x : UInt32) : IntKind.u32.wrap (wN x * 256) = wN (x <<< 8) := ZX x 8 qe
theorem qdh (c : UInt8) : IntKind.u32.wrap (c.toNat : Int) = wN c.toUInt32 := by
 rw [ZZ, IntKind.wrap_u32]
 have := c.toNat_lt
 omega
theorem qT (a : Go.Act) (hs : a.tmps.size = 305) (hd : a.defers = []) : a = ⟨(qd a 0 :: qd a 1 :: qd a 2 :: qd a 3 :: qd a 4 :: qd a 5 :: qd a 6 :: qd a 7 :: qd a 8 :: qd a 9 :: qd a 10 :: qd a 11 :: qd a 12 :: qd a 13 :: qd a 14 :: qd a 15 :: qd a 16 :: qd a 17 :: qd a 18 :: qd a 19 :: qd a 20 :: qd a 21 :: qd a 22 :: qd a 23 :: qd a 24 :: qd a 25 :: qd a 26 :: qd a 27 :: qd a 28 :: qd a 29 :: qd a 30 :: qd a 31 :: qd a 32 :: qd a 33 :: qd a 34 :: qd a 35 :: qd a 36 :: qd a 37 :: qd a 38 :: qd a 39 :: qd a 40 :: qd a 41 :: qd a 42 :: qd a 43 :: qd a 44 :: qd a 45 :: qd a 46 :: qd a 47 :: qd a 48 :: qd a 49 :: qd a 50 :: qd a 51 :: qd a 52 :: qd a 53 :: qd a 54 :: qd a 55 :: qd a 56 :: qd a 57 :: qd a 58 :: qd a 59 :: qd a 60 :: qd a 61 :: qd a 62 :: qd a 63 :: qd a 64 :: qd a 65 :: qd a 66 :: qd a 67 :: qd a 68 :: qd a 69 :: qd a 70 :: qd a 71 :: qd a 72 :: qd a 73 :: qd a 74 :: qd a 75 :: qd a 76 :: qd a 77 :: qd a 78 :: qd a 79 :: qd a 80 :: qd a 81 :: qd a 82 :: qd a 83 :: qd a 84 :: qd a 85 :: qd a 86 :: qd a 87 :: qd a 88 :: qd a 89 :: qd a 90 :: qd a 91 :: qd a 92 :: qd a 93 :: qd a 94 :: qd a 95 :: qd a 96 :: qd a 97 :: qd a 98 :: qd a 99 :: qd a 100 :: qd a 101 :: qd a 102 :: qd a 103 :: qd a 104 :: qd a 105 :: qd a 106 :: qd a 107 :: qd a 108 :: qd a 109 :: qd a 110 :: qd a 111 :: qd a 112 :: qd a 113 :: qd a 114 :: qd a 115 :: qd a 116 :: qd a 117 :: qd a 118 :: qd a 119 :: qd a 120 :: qd a 121 :: qd a 122 :: qd a 123 :: qd a 124 :: qd a 125 :: qd a 126 :: qd a 127 :: qd a 128 :: qd a 129 :: qd a 130 :: qd a 131 :: qd a 132 :: qd a 133 :: qd a 134 :: qd a 135 :: qd a 136 :: qd a 137 :: qd a 138 :: qd a 139 :: qd a 140 :: qd a 141 :: qd a 142 :: qd a 143 :: qd a 144 :: qd a 145 :: qd a 146 :: qd a 147 :: qd a 148 :: qd a 149 :: qd a 150 :: qd a 151 :: qd a 152 :: qd a 153 :: qd a 154 :: qd a 155 :: qd a 156 :: qd a 157 :: qd a 158 :: qd a 159 :: qd a 160 :: qd a 161 :: qd a 162 :: qd a 163 :: qd a 164 :: qd a 165 :: qd a 166 :: qd a 167 :: qd a 168 :: qd a 169 :: qd a 170 :: qd a 171 :: qd a 172 :: qd a 173 :: qd a 174 :: qd a 175 :: qd a 176 :: qd a 177 :: qd a 178 :: qd a 179 :: qd a 180 :: qd a 181 :: qd a 182 :: qd a 183 :: qd a 184 :: qd a 185 :: qd a 186 :: qd a 187 :: qd a 188 :: qd a 189 :: qd a 190 :: qd a 191 :: qd a 192 :: qd a 193 :: qd a 194 :: qd a 195 :: qd a 196 :: qd a 197 :: qd a 198 :: qd a 199 :: qd a 200 :: qd a 201 :: qd a 202 :: qd a 203 :: qd a 204 :: qd a 205 :: qd a 206 :: qd a 207 :: qd a 208 :: qd a 209 :: qd a 210 :: qd a 211 :: qd a 212 :: qd a 213 :: qd a 214 :: qd a 215 :: qd a 216 :: qd a 217 :: qd a 218 :: qd a 219 :: qd a 220 :: qd a 221 :: qd a 222 :: qd a 223 :: qd a 224 :: qd a 225 :: qd a 226 :: qd a 227 :: qd a 228 :: qd a 229 :: qd a 230 :: qd a 231 :: qd a 232 :: qd a 233 :: qd a 234 :: qd a 235 :: qd a 236 :: qd a 237 :: qd a 238 :: qd a 239 :: qd a 240 :: qd a 241 :: qd a 242 :: qd a 243 :: qd a 244 :: qd a 245 :: qd a 246 :: qd a 247 :: qd a 248 :: qd a 249 :: qd a 250 :: qd a 251 :: qd a 252 :: qd a 253 :: qd a 254 :: qd a 255 :: qd a 256 :: qd a 257 :: qd a 258 :: qd a 259 :: qd a 260 :: qd a 261 :: qd a 262 :: qd a 263 :: qd a 264 :: qd a 265 :: qd a 266 :: qd a 267 :: qd a 268 :: qd a 269 :: qd a 270 :: qd a 271 :: qd a 272 :: qd a 273 :: qd a 274 :: qd a 275 :: qd a 276 :: qd a 277 :: qd a 278 :: qd a 279 :: qd a 280 :: qd a 281 :: qd a 282 :: qd a 283 :: qd a 284 :: qd a 285 :: qd a 286 :: qd a 287 :: qd a 288 :: qd a 289 :: qd a 290 :: qd a 291 :: qd a 292 :: qd a 293 :: qd a 294 :: qd a 295 :: qd a 296 :: qd a 297 :: qd a 298 :: qd a 299 :: qd a 300 :: qd a 301 :: qd a 302 :: qd a 303 :: qd a 304 :: []).toArray, []⟩ := j6 a 305 hs hd
noncomputable def qam : Code := ((Tryz.f31.body.bind (qn 17)).getD .skip)
theorem qbI (w : World) (a : Go.Act) (hsz : a.tmps.size = 305) (bb wb en cap o t q : Nat) (ws : List UInt32) (xs : List UInt8) (hws : WAt w wb 158 ws) (hxs : ∀ j, j < en -> w.cell? ⟨bb, j, none⟩ = some (.int .u8 ((xs.getD j 0).toNat : Int))) (hwl : ws.length = 64) (ht : t < 16) (hq : o + 4 * t = q) (hqn : q + 4 <= en) (hen : en <= 200000000) (h3 : qd a 3 = .slice (some ⟨bb, 0, none⟩) en cap) (h7 : qd a 7 = .int .i64 (o : Int)) (h8 : qd a 8 = .pointer (some ⟨wb, 0, none⟩)) (h9 : qd a 9 = .int .i64 (t : Int)) (Q : Exit -> Go.Act -> World -> Prop)
  (hQ : ∀ (b : Go.Act) (p : World), b.defers = a.defers -> b.tmps.size = 305 -> (∀ s, s ∉ ([68, 69, 70, 71, 72, 73, 74, 75, 76, 77, 78, 79, 80, 81, 82, 83, 84, 85, 86, 87, 88, 89, 90, 91, 92, 93, 94, 95, 96, 97, 98, 99, 100, 101, 102, 103, 104, 105, 106, 107, 108, 109, 110] : List Nat) -> qd b s = qd a s) -> Fr [wb] w p -> WAt p wb 158 (ws.set t ((xs.getD q 0).toUInt32 <<< UInt32.ofNat 24 ||| (xs.getD (q + 1) 0).toUInt32 <<< UInt32.ofNat 16 ||| (xs.getD (q + 2) 0).toUInt32 <<< UInt32.ofNat 8 ||| (xs.getD (q + 3) 0).toUInt32)) -> Q .normal b p) : Code.wp Tryz.prog qam Q a w := by
 conv => arg 2; whnf
 refine qU qf qf [some 68, some 69, some 70, some 71, some 72, some 73, some 74, some 75, some 76, some 77, some 78, some 79, some 80, some 81, some 82, some 83, some 84, some 85, some 86, some 87, some 88, some 89, some 90, some 91, some 92, some 93, some 94, some 95, some 96, some 97, some 98, some 99, some 100, some 101, some 102, some 103, some 104, some 105, some 106, some 107, some 108, some 109, some 110, none] [43] [.rd (.int .i64 (t : Int)) 1, .rd (.slice (some ⟨bb, 0, none⟩) en cap) 1, .rd (.int .i64 (o : Int)) 1, .rd (.int .i64 (t : Int)) 1, .rd (.int .i64 ((4 * t : Nat) : Int)) 1, .rd (.int .i64 ((q : Nat) : Int)) 1, .rd (.pointer (some ⟨bb, q, none⟩)) 1, .rd (.int .u8 ((xs.getD q 0).toNat : Int)) 0, .rd (.int .u32 (wN ((xs.getD q 0).toUInt32))) 1, .rd (.int .u32 (wN ((xs.getD q 0).toUInt32 <<< UInt32.ofNat 24))) 1, .rd (.slice (some ⟨bb, 0, none⟩) en cap) 1, .rd (.int .i64 (o : Int)) 1, .rd (.int .i64 (t : Int)) 1, .rd (.int .i64 ((4 * t : Nat) : Int)) 1, .rd (.int .i64 ((q : Nat) : Int)) 1, .rd (.int .i64 ((q + 1 : Nat) : Int)) 1, .rd (.pointer (some ⟨bb, q + 1, none⟩)) 1, .rd (.int .u8 ((xs.getD (q + 1) 0).toNat : Int)) 0, .rd (.int .u32 (wN ((xs.getD (q + 1) 0).toUInt32))) 1, .rd (.int .u32 (wN ((xs.getD (q + 1) 0).toUInt32 <<< UInt32.ofNat 16))) 1, .rd (.int .u32 (wN ((xs.getD q 0).toUInt32 <<< UInt32.ofNat 24 ||| (xs.getD (q + 1) 0).toUInt32 <<< UInt32.ofNat 16))) 1, .rd (.slice (some ⟨bb, 0, none⟩) en cap) 1, .rd (.int .i64 (o : Int)) 1, .rd (.int .i64 (t : Int)) 1, .rd (.int .i64 ((4 * t : Nat) : Int)) 1, .rd (.int .i64 ((q : Nat) : Int)) 1, .rd (.int .i64 ((q + 2 : Nat) : Int)) 1, .rd (.pointer (some ⟨bb, q + 2, none⟩)) 1, .rd (.int .u8 ((xs.getD (q + 2) 0).toNat : Int)) 0, .rd (.int .u32 (wN ((xs.getD (q + 2) 0).toUInt32))) 1, .rd (.int .u32 (wN ((xs.getD (q + 2) 0).toUInt32 <<< UInt32.ofNat 8))) 1, .rd (.int .u32 (wN ((xs.getD q 0).toUInt32 <<< UInt32.ofNat 24 ||| (xs.getD (q + 1) 0).toUInt32 <<< UInt32.ofNat 16 ||| (xs.getD (q + 2) 0).toUInt32 <<< UInt32.ofNat 8))) 1, .rd (.slice (some ⟨bb, 0, none⟩) en cap) 1, .rd (.int .i64 (o : Int)) 1, .rd (.int .i64 (t : Int)) 1, .rd (.int .i64 ((4 * t : Nat) : Int)) 1, .rd (.int .i64 ((q : Nat) : Int)) 1, .rd (.int .i64 ((q + 3 : Nat) : Int)) 1, .rd (.pointer (some ⟨bb, q + 3, none⟩)) 1, .rd (.int .u8 ((xs.getD (q + 3) 0).toNat : Int)) 0, .rd (.int .u32 (wN ((xs.getD (q + 3) 0).toUInt32))) 1, .rd (.int .u32 (wN ((xs.getD q 0).toUInt32 <<< UInt32.ofNat 24 ||| (xs.getD (q + 1) 0).toUInt32 <<< UInt32.ofNat 16 ||| (xs.getD (q + 2) 0).toUInt32 <<< UInt32.ofNat 8 ||| (xs.getD (q + 3) 0).toUInt32))) 1, .rd (.pointer (some ⟨wb, t, none⟩)) 1, .st 0] (fun cj => undef) (fun s g p => Fr [wb] w p /\ (s <= 0 -> WAt p wb 158 (ws) /\ ∀ j, j < en -> p.cell? ⟨bb, j, none⟩ = some (.int .u8 ((xs.getD j 0).toNat : Int))) /\ (0 < s -> WAt p wb 158 (ws.set t ((xs.getD q 0).toUInt32 <<< UInt32.ofNat 24 ||| (xs.getD (q + 1) 0).toUInt32 <<< UInt32.ofNat 16 ||| (xs.getD (q + 2) 0).toUInt32 <<< UInt32.ofNat 8 ||| (xs.getD (q + 3) 0).toUInt32)))) qf qw xz qf qf qe ?_ ⟨?_, ?_, ?_, ?_, ?_, ?_, ?_, ?_, ?_, ?_, ?_, ?_, ?_, ?_, ?_, ?_, ?_, ?_, ?_, ?_, ?_, ?_, ?_, ?_, ?_, ?_, ?_, ?_, ?_, ?_, ?_, ?_, ?_, ?_, ?_, ?_, ?_, ?_, ?_, ?_, ?_, ?_, ?_, ?_, trivial⟩ ?_
 ·intro w1 hw1
  exact ⟨fun _ => undef, ⟨(hw1).weak, fun _ => ⟨hws.keep0 hw1, fun j hj => qm hw1 qg (hxs j hj)⟩, fun hk => absurd hk qe⟩⟩
 ·refine ⟨⟨68, rfl⟩, .inl rfl, fun b p s g hs hlow hS h => ?_⟩
  have e0 := h.eo qe h9
  exact Y0
 ·refine ⟨⟨69, rfl⟩, .inl rfl, fun b p s g hs hlow hS h => ?_⟩
  have e0 := h.eo qe h3
  exact Y0
 ·refine ⟨⟨70, rfl⟩, .inl rfl, fun b p s g hs hlow hS h => ?_⟩
  have e0 := h.eo qe h7
  exact Y0
 ·refine ⟨⟨71, rfl⟩, .inl rfl, fun b p s g hs hlow hS h => ?_⟩
  have e0 := h.eo qe h9
  exact Y0
 ·refine ⟨⟨72, rfl⟩, .inl rfl, fun b p s g hs hlow hS h => ?_⟩
  have e0 := h.er 3 71 qf rfl rfl
  exact Y19
 ·refine ⟨⟨73, rfl⟩, .inl rfl, fun b p s g hs hlow hS h => ?_⟩
  have e0 := h.er 2 70 qf rfl rfl
  have e1 := h.er 4 72 qf rfl rfl
  exact Y17
 ·refine ⟨⟨74, rfl⟩, .inl rfl, fun b p s g hs hlow hS h => ?_⟩
  have e0 := h.er 1 69 qf rfl rfl
  have e1 := h.er 5 73 qf rfl rfl
  refine gw0 rfl rfl ?_
  obtain ⟨ρ, hρ, ec⟩ := evx b
  rw [hρ] at e0 e1 ⊢
  unfold execOp; simp [go_sem, e0, e1, ec, show (q : Int) < (en : Int) by omega, show q < en by omega]
 ·refine ⟨⟨75, rfl⟩, .inr ⟨43, rfl, by kernel_rfl⟩, fun b p s g hs hlow hS h => ?_⟩
  have e0 := h.er 6 74 qf rfl rfl
  obtain ⟨hf, m0, m1⟩ := hS
  have c0 := (show p.cell? ⟨bb, q, none⟩ = some (.int .u8 ((xs.getD q 0).toNat : Int)) from ((m0 hs).2 (q) Y95))
  exact Y4
 ·refine ⟨⟨76, rfl⟩, .inl rfl, fun b p s g hs hlow hS h => ?_⟩
  have e0 := h.er 7 75 qf rfl rfl
  exact Y33
 ·refine ⟨⟨77, rfl⟩, .inl rfl, fun b p s g hs hlow hS h => ?_⟩
  have e0 := h.er 8 76 qf rfl rfl
  refine gw0 rfl rfl ?_
  obtain ⟨ρ, hρ, ec⟩ := evx b
  rw [hρ] at e0 ⊢
  unfold execOp; simp [go_sem, e0, ec, qc5]
 ·refine ⟨⟨78, rfl⟩, .inl rfl, fun b p s g hs hlow hS h => ?_⟩
  have e0 := h.eo qe h3
  exact Y0
 ·refine ⟨⟨79, rfl⟩, .inl rfl, fun b p s g hs hlow hS h => ?_⟩
  have e0 := h.eo qe h7
  exact Y0
 ·refine ⟨⟨80, rfl⟩, .inl rfl, fun b p s g hs hlow hS h => ?_⟩
  have e0 := h.eo qe h9
  exact Y0
 ·refine ⟨⟨81, rfl⟩, .inl rfl, fun b p s g hs hlow hS h => ?_⟩
  have e0 := h.er 12 80 qf rfl rfl
  exact Y19
 ·refine ⟨⟨82, rfl⟩, .inl rfl, fun b p s g hs hlow hS h => ?_⟩
  have e0 := h.er 11 79 qf rfl rfl
  have e1 := h.er 13 81 qf rfl rfl
  exact Y17
 ·refine ⟨⟨83, rfl⟩, .inl rfl, fun b p s g hs hlow hS h => ?_⟩
  have e0 := h.er 14 82 qf rfl rfl
  refine gw0 rfl rfl ?_
  obtain ⟨ρ, hρ, ec⟩ := evx b
  rw [hρ] at e0 ⊢
  unfold execOp; simp [go_sem, e0, ec, show IntKind.i64.wrap ((q : Int) + 1) = (q : Int) + 1 by rw [IntKind.wrap_i64]; omega]
 ·refine ⟨⟨84, rfl⟩, .inl rfl, fun b p s g hs hlow hS h => ?_⟩
  have e0 := h.er 10 78 qf rfl rfl
  have e1 := h.er 15 83 qf rfl rfl
  refine gw0 rfl rfl ?_
  obtain ⟨ρ, hρ, ec⟩ := evx b
  rw [hρ] at e0 e1 ⊢
  unfold execOp; simp [go_sem, e0, e1, ec, show (q : Int) + 1 < (en : Int) by omega, show (0 : Int) <= (q : Int) + 1 by omega, show ¬ (en : Int) <= (q : Int) + 1 by omega, show q + 1 < en by omega]
 ·refine ⟨⟨85, rfl⟩, .inr ⟨43, rfl, by kernel_rfl⟩, fun b p s g hs hlow hS h => ?_⟩
  have e0 := h.er 16 84 qf rfl rfl
  obtain ⟨hf, m0, m1⟩ := hS
  have c0 := (show p.cell? ⟨bb, q + 1, none⟩ = some (.int .u8 ((xs.getD (q + 1) 0).toNat : Int)) from ((m0 hs).2 (q + 1) Y95))
  exact Y4
 ·refine ⟨⟨86, rfl⟩, .inl rfl, fun b p s g hs hlow hS h => ?_⟩
  have e0 := h.er 17 85 qf rfl rfl
  exact Y33
 ·refine ⟨⟨87, rfl⟩, .inl rfl, fun b p s g hs hlow hS h => ?_⟩
  have e0 := h.er 18 86 qf rfl rfl
  refine gw0 rfl rfl ?_
  obtain ⟨ρ, hρ, ec⟩ := evx b
  rw [hρ] at e0 ⊢
  unfold execOp; simp [go_sem, e0, ec, qcG]
 ·refine ⟨⟨88, rfl⟩, .inl rfl, fun b p s g hs hlow hS h => ?_⟩
  have e0 := h.er 9 77 qf rfl rfl
  have e1 := h.er 19 87 qf rfl rfl
  exact Y46
 ·refine ⟨⟨89, rfl⟩, .inl rfl, fun b p s g hs hlow hS h => ?_⟩
  have e0 := h.eo qe h3
  exact Y0
 ·refine ⟨⟨90, rfl⟩, .inl rfl, fun b p s g hs hlow hS h => ?_⟩
  have e0 := h.eo qe h7
  exact Y0
 ·refine ⟨⟨91, rfl⟩, .inl rfl, fun b p s g hs hlow hS h => ?_⟩
  have e0 := h.eo qe h9
  exact Y0
 ·refine ⟨⟨92, rfl⟩, .inl rfl, fun b p s g hs hlow hS h => ?_⟩
  have e0 := h.er 23 91 qf rfl rfl
  exact Y19
 ·refine ⟨⟨93, rfl⟩, .inl rfl, fun b p s g hs hlow hS h => ?_⟩
  have e0 := h.er 22 90 qf rfl rfl
  have e1 := h.er 24 92 qf rfl rfl
  exact Y17
 ·refine ⟨⟨94, rfl⟩, .inl rfl, fun b p s g hs hlow hS h => ?_⟩
  have e0 := h.er 25 93 qf rfl rfl
  refine gw0 rfl rfl ?_
  obtain ⟨ρ, hρ, ec⟩ := evx b
  rw [hρ] at e0 ⊢
  unfold execOp; simp [go_sem, e0, ec, show IntKind.i64.wrap ((q : Int) + 2) = (q : Int) + 2 by rw [IntKind.wrap_i64]; omega]
 ·refine ⟨⟨95, rfl⟩, .inl rfl, fun b p s g hs hlow hS h => ?_⟩
  have e0 := h.er 21 89 qf rfl rfl
  have e1 := h.er 26 94 qf rfl rfl
  refine gw0 rfl rfl ?_
  obtain ⟨ρ, hρ, ec⟩ := evx b
  rw [hρ] at e0 e1 ⊢
  unfold execOp; simp [go_sem, e0, e1, ec, show (q : Int) + 2 < (en : Int) by omega, show (0 : Int) <= (q : Int) + 2 by omega, show ¬ (en : Int) <= (q : Int) + 2 by omega, show q + 2 < en by omega]
 ·refine ⟨⟨96, rfl⟩, .inr ⟨43, rfl, by kernel_rfl⟩, fun b p s g hs hlow hS h => ?_⟩
  have e0 := h.er 27 95 qf rfl rfl
  obtain ⟨hf, m0, m1⟩ := hS
  have c0 := (show p.cell? ⟨bb, q + 2, none⟩ = some (.int .u8 ((xs.getD (q + 2) 0).toNat : Int)) from ((m0 hs).2 (q + 2) Y95))
  exact Y4
 ·refine ⟨⟨97, rfl⟩, .inl rfl, fun b p s g hs hlow hS h => ?_⟩
  have e0 := h.er 28 96 qf rfl rfl
  exact Y33
 ·refine ⟨⟨98, rfl⟩, .inl rfl, fun b p s g hs hlow hS h => ?_⟩
  have e0 := h.er 29 97 qf rfl rfl
  refine gw0 rfl rfl ?_
  obtain ⟨ρ, hρ, ec⟩ := evx b
  rw [hρ] at e0 ⊢
  unfold execOp; simp [go_sem, e0, ec, qdR]
 ·refine ⟨⟨99, rfl⟩, .inl rfl, fun b p s g hs hlow hS h => ?_⟩
  have e0 := h.er 20 88 qf rfl rfl
  have e1 := h.er 30 98 qf rfl rfl
  exact Y46
 ·refine ⟨⟨100, rfl⟩, .inl rfl, fun b p s g hs hlow hS h => ?_⟩
  have e0 := h.eo qe h3
  exact Y0
 ·refine ⟨⟨101, rfl⟩, .inl rfl, fun b p s g hs hlow hS h => ?_⟩
  have e0 := h.eo qe h7
  exact Y0
 ·refine ⟨⟨102, rfl⟩, .inl rfl, fun b p s g hs hlow hS h => ?_⟩
  have e0 := h.eo qe h9
  exact Y0
 ·refine ⟨⟨103, rfl⟩, .inl rfl, fun b p s g hs hlow hS h => ?_⟩
  have e0 := h.er 34 102 qf rfl rfl
  exact Y19
 ·refine ⟨⟨104, rfl⟩, .inl rfl, fun b p s g hs hlow hS h => ?_⟩
  have e0 := h.er 33 101 qf rfl rfl
  have e1 := h.er 35 103 qf rfl rfl
  exact Y17
 ·refine ⟨⟨105, rfl⟩, .inl rfl, fun b p s g hs hlow hS h => ?_⟩
  have e0 := h.er 36 104 qf rfl rfl
  refine gw0 rfl rfl ?_
  obtain ⟨ρ, hρ, ec⟩ := evx b
  rw [hρ] at e0 ⊢
  unfold execOp; simp [go_sem, e0, ec, show IntKind.i64.wrap ((q : Int) + 3) = (q : Int) + 3 by rw [IntKind.wrap_i64]; omega]
 ·refine ⟨⟨106, rfl⟩, .inl rfl, fun b p s g hs hlow hS h => ?_⟩
  have e0 := h.er 32 100 qf rfl rfl
  have e1 := h.er 37 105 qf rfl rfl
  refine gw0 rfl rfl ?_
  obtain ⟨ρ, hρ, ec⟩ := evx b
  rw [hρ] at e0 e1 ⊢
  unfold execOp; simp [go_sem, e0, e1, ec, show (q : Int) + 3 < (en : Int) by omega, show (0 : Int) <= (q : Int) + 3 by omega, show ¬ (en : Int) <= (q : Int) + 3 by omega, show q + 3 < en by omega]
 ·refine ⟨⟨107, rfl⟩, .inr ⟨43, rfl, by kernel_rfl⟩, fun b p s g hs hlow hS h => ?_⟩
  have e0 := h.er 38 106 qf rfl rfl
  obtain ⟨hf, m0, m1⟩ := hS
  have c0 := (show p.cell? ⟨bb, q + 3, none⟩ = some (.int .u8 ((xs.getD (q + 3) 0).toNat : Int)) from ((m0 hs).2 (q + 3) Y95))
  exact Y4
 ·refine ⟨⟨108, rfl⟩, .inl rfl, fun b p s g hs hlow hS h => ?_⟩
  have e0 := h.er 39 107 qf rfl rfl
  exact Y33
 ·refine ⟨⟨109, rfl⟩, .inl rfl, fun b p s g hs hlow hS h => ?_⟩
  have e0 := h.er 31 99 qf rfl rfl
  have e1 := h.er 40 108 qf rfl rfl
  exact Y46
 ·refine ⟨⟨110, rfl⟩, .inl rfl, fun b p s g hs hlow hS h => ?_⟩
  have e0 := h.eo qe h8
  have e1 := h.er 0 68 qf rfl rfl
  exact Y24
 ·refine ⟨rfl, .inl rfl, fun b p g hS h => ?_⟩
  have e0 := h.er 42 110 qf rfl rfl
  have e1 := h.er 41 109 qf rfl rfl
  obtain ⟨hf, m0, m1⟩ := hS
  have hp := (m0 qe).1
  refine jf (K := fun _ p => Fr [wb] w p /\ WAt p wb 158 (ws.set t ((xs.getD q 0).toUInt32 <<< UInt32.ofNat 24 ||| (xs.getD (q + 1) 0).toUInt32 <<< UInt32.ofNat 16 ||| (xs.getD (q + 2) 0).toUInt32 <<< UInt32.ofNat 8 ||| (xs.getD (q + 3) 0).toUInt32))) (fun v p hv => ⟨⟨hv.1, fun hk => absurd hk qe, fun _ => hv.2⟩, .inl rfl⟩) ?_
  obtain ⟨cur, k1, k2, -, k4⟩ := xD hp
  refine qW (K := fun _ p => Fr [wb] w p /\ WAt p wb 158 (ws.set t ((xs.getD q 0).toUInt32 <<< UInt32.ofNat 24 ||| (xs.getD (q + 1) 0).toUInt32 <<< UInt32.ofNat 16 ||| (xs.getD (q + 2) 0).toUInt32 <<< UInt32.ofNat 8 ||| (xs.getD (q + 3) 0).toUInt32))) _ qw ?_
  refine qj (.tmp 110) (.tmp 109) rfl rfl (.int .u32 (wN ((xs.getD q 0).toUInt32 <<< UInt32.ofNat 24 ||| (xs.getD (q + 1) 0).toUInt32 <<< UInt32.ofNat 16 ||| (xs.getD (q + 2) 0).toUInt32 <<< UInt32.ofNat 8 ||| (xs.getD (q + 3) 0).toUInt32))) e0 e1 k1 (by have := k2; omega) qf rfl ?_
  intro p1 f1 a1 _
  exact ⟨rfl, rfl, hf.trans f1, k4 p1 (t) _ a1⟩
 ·exact Y10
theorem xj (x : UInt32) (n : Nat) (h1 : 1 <= n) (h2 : n <= 31) (w : World) : Calls Tryz.prog 81 #[.int .u32 (wN x), .int .u64 (n : Int)] w fun e w' => e = .returned (.int .u32 (wN (qH x n))) /\ Fr [] w w' :=
 (yo x n h1 h2 w).mono fun e w' h => ⟨h.1, h.2 ▸ Fr.refl _ _⟩
theorem qdc (x : UInt32) : wN x / 1024 = wN (zp x 10) := QW x 10 qe
theorem qdY (x : UInt32) : wN x / 8 = wN (zp x 3) := QW x 3 qe
noncomputable def qb3 : Code := ((Tryz.f31.body.bind (qn 22)).getD .skip)
theorem qc6 (w : World) (a : Go.Act) (hsz : a.tmps.size = 305) (wb t : Nat) (ws : List UInt32) (hws : WAt w wb 158 ws) (hwl : ws.length = 64) (h16 : 16 <= t) (h64 : t < 64) (h8 : qd a 8 = .pointer (some ⟨wb, 0, none⟩)) (h10 : qd a 10 = .int .i64 (t : Int)) (h11 : qd a 11 = .int .u32 (wN ((ws.getD (t - 2) 0)))) (h12 : qd a 12 = .int .u32 (wN ((ws.getD (t - 15) 0)))) (Q : Exit -> Go.Act -> World -> Prop)
  (hQ : ∀ (b : Go.Act) (p : World), b.defers = a.defers -> b.tmps.size = 305 -> (∀ s, s ∉ ([123, 124, 125, 126, 127, 128, 129, 130, 131, 132, 133, 134, 135, 136, 137, 138, 139, 140, 141, 142, 143, 144, 145, 146, 147, 148, 149, 150, 151] : List Nat) -> qd b s = qd a s) -> Fr [wb] w p -> WAt p wb 158 (ws.set t ((qH (ws.getD (t - 2) 0) 17 ^^^ qH (ws.getD (t - 2) 0) 19 ^^^ zp (ws.getD (t - 2) 0) 10) + ws.getD (t - 7) 0 + (qH (ws.getD (t - 15) 0) 7 ^^^ qH (ws.getD (t - 15) 0) 18 ^^^ zp (ws.getD (t - 15) 0) 3) + ws.getD (t - 16) 0)) -> Q .normal b p) : Code.wp Tryz.prog qb3 Q a w := by
 conv => arg 2; whnf
 refine qU qf qf [some 123, some 124, some 125, some 126, some 127, some 128, some 129, some 130, some 131, some 132, some 133, some 134, some 135, some 136, some 137, some 138, some 139, some 140, some 141, some 142, some 143, some 144, some 145, some 146, some 147, some 148, some 149, some 150, some 151, none] [2, 4, 15, 17, 29] [.rd (.int .i64 (t : Int)) 5, .rd (.int .u32 (wN ((ws.getD (t - 2) 0)))) 5, .st 0, .rd (.int .u32 (wN ((ws.getD (t - 2) 0)))) 5, .st 1, .rd (.int .u32 (wN (qH (ws.getD (t - 2) 0) 17 ^^^ qH (ws.getD (t - 2) 0) 19))) 5, .rd (.int .u32 (wN ((ws.getD (t - 2) 0)))) 5, .rd (.int .u32 (wN (zp (ws.getD (t - 2) 0) 10))) 5, .rd (.int .u32 (wN (qH (ws.getD (t - 2) 0) 17 ^^^ qH (ws.getD (t - 2) 0) 19 ^^^ zp (ws.getD (t - 2) 0) 10))) 5, .rd (.int .i64 (t : Int)) 5, .rd (.int .i64 ((t - 7 : Nat) : Int)) 5, .rd (.pointer (some ⟨wb, t - 7, none⟩)) 5, .rd (.int .u32 (wN (ws.getD (t - 7) 0))) 4, .rd (.int .u32 (wN ((qH (ws.getD (t - 2) 0) 17 ^^^ qH (ws.getD (t - 2) 0) 19 ^^^ zp (ws.getD (t - 2) 0) 10) + ws.getD (t - 7) 0))) 5, .rd (.int .u32 (wN ((ws.getD (t - 15) 0)))) 5, .st 2, .rd (.int .u32 (wN ((ws.getD (t - 15) 0)))) 5, .st 3, .rd (.int .u32 (wN (qH (ws.getD (t - 15) 0) 7 ^^^ qH (ws.getD (t - 15) 0) 18))) 5, .rd (.int .u32 (wN ((ws.getD (t - 15) 0)))) 5, .rd (.int .u32 (wN (zp (ws.getD (t - 15) 0) 3))) 5, .rd (.int .u32 (wN (qH (ws.getD (t - 15) 0) 7 ^^^ qH (ws.getD (t - 15) 0) 18 ^^^ zp (ws.getD (t - 15) 0) 3))) 5, .rd (.int .u32 (wN ((qH (ws.getD (t - 2) 0) 17 ^^^ qH (ws.getD (t - 2) 0) 19 ^^^ zp (ws.getD (t - 2) 0) 10) + ws.getD (t - 7) 0 + (qH (ws.getD (t - 15) 0) 7 ^^^ qH (ws.getD (t - 15) 0) 18 ^^^ zp (ws.getD (t - 15) 0) 3)))) 5, .rd (.int .i64 (t : Int)) 5, .rd (.int .i64 ((t - 16 : Nat) : Int)) 5, .rd (.pointer (some ⟨wb, t - 16, none⟩)) 5, .rd (.int .u32 (wN (ws.getD (t - 16) 0))) 4, .rd (.int .u32 (wN ((qH (ws.getD (t - 2) 0) 17 ^^^ qH (ws.getD (t - 2) 0) 19 ^^^ zp (ws.getD (t - 2) 0) 10) + ws.getD (t - 7) 0 + (qH (ws.getD (t - 15) 0) 7 ^^^ qH (ws.getD (t - 15) 0) 18 ^^^ zp (ws.getD (t - 15) 0) 3) + ws.getD (t - 16) 0))) 5, .rd (.pointer (some ⟨wb, t, none⟩)) 5, .st 4] (fun cj => if cj = 0 then (.int .u32 (wN (qH (ws.getD (t - 2) 0) 17))) else if cj = 1 then (.int .u32 (wN (qH (ws.getD (t - 2) 0) 19))) else if cj = 2 then (.int .u32 (wN (qH (ws.getD (t - 15) 0) 7))) else if cj = 3 then (.int .u32 (wN (qH (ws.getD (t - 15) 0) 18))) else undef) (fun s g p => Fr [wb] w p /\ (s <= 4 -> WAt p wb 158 (ws)) /\ (4 < s -> WAt p wb 158 (ws.set t ((qH (ws.getD (t - 2) 0) 17 ^^^ qH (ws.getD (t - 2) 0) 19 ^^^ zp (ws.getD (t - 2) 0) 10) + ws.getD (t - 7) 0 + (qH (ws.getD (t - 15) 0) 7 ^^^ qH (ws.getD (t - 15) 0) 18 ^^^ zp (ws.getD (t - 15) 0) 3) + ws.getD (t - 16) 0)))) qf qw xz qf qf qe ?_ ⟨?_, ?_, ?_, ?_, ?_, ?_, ?_, ?_, ?_, ?_, ?_, ?_, ?_, ?_, ?_, ?_, ?_, ?_, ?_, ?_, ?_, ?_, ?_, ?_, ?_, ?_, ?_, ?_, ?_, ?_, trivial⟩ ?_
 ·intro w1 hw1
  exact ⟨fun _ => undef, ⟨(hw1).weak, fun _ => hws.keep0 hw1, fun hk => absurd hk qe⟩⟩
 ·refine ⟨⟨123, rfl⟩, .inl rfl, fun b p s g hs hlow hS h => ?_⟩
  have e0 := h.eo qe h10
  exact Y0
 ·refine ⟨⟨124, rfl⟩, .inl rfl, fun b p s g hs hlow hS h => ?_⟩
  have e0 := h.eo qe h11
  exact Y0
 ·refine ⟨rfl, .inl rfl, fun b p g hS h => ?_⟩
  have e0 := h.er 1 124 qf rfl rfl
  have e1 : b.eval (.const (.int .u64 17)) = .int .u64 17 := rfl
  obtain ⟨hf, m0, m1⟩ := hS
  refine qG _ qw (qq rfl) 81 _ _ rfl #[.int .u32 (wN ((ws.getD (t - 2) 0))), .int .u64 17] Y99 zC ((xj (ws.getD (t - 2) 0) 17 qe qe p).mono ?_)
  exact Y11
 ·refine ⟨⟨126, rfl⟩, .inl rfl, fun b p s g hs hlow hS h => ?_⟩
  have e0 := h.eo qe h11
  exact Y0
 ·refine ⟨rfl, .inr ⟨2, rfl, by kernel_rfl⟩, fun b p g hS h => ?_⟩
  have e0 := h.er 3 126 qf rfl rfl
  have e1 : b.eval (.const (.int .u64 19)) = .int .u64 19 := rfl
  obtain ⟨hf, m0, m1⟩ := hS
  refine qG _ qw (qq rfl) 81 _ _ rfl #[.int .u32 (wN ((ws.getD (t - 2) 0))), .int .u64 19] Y99 zC ((xj (ws.getD (t - 2) 0) 19 qe qe p).mono ?_)
  exact Y11
 ·refine ⟨⟨128, rfl⟩, .inl rfl, fun b p s g hs hlow hS h => ?_⟩
  have e0 := (show b.eval (.tmp 125) = .int .u32 (wN (qH (ws.getD (t - 2) 0) 17)) from h.st 2 _ 125 qf rfl rfl)
  have e1 := (show b.eval (.tmp 127) = .int .u32 (wN (qH (ws.getD (t - 2) 0) 19)) from h.st 4 _ 127 qf rfl rfl)
  exact Y14
 ·refine ⟨⟨129, rfl⟩, .inl rfl, fun b p s g hs hlow hS h => ?_⟩
  have e0 := h.eo qe h11
  exact Y0
 ·refine ⟨⟨130, rfl⟩, .inl rfl, fun b p s g hs hlow hS h => ?_⟩
  have e0 := h.er 6 129 qf rfl rfl
  refine gw0 rfl rfl ?_
  obtain ⟨ρ, hρ, ec⟩ := evx b
  rw [hρ] at e0 ⊢
  unfold execOp; simp [go_sem, e0, ec, qdc]
 ·refine ⟨⟨131, rfl⟩, .inl rfl, fun b p s g hs hlow hS h => ?_⟩
  have e0 := h.er 5 128 qf rfl rfl
  have e1 := h.er 7 130 qf rfl rfl
  exact Y14
 ·refine ⟨⟨132, rfl⟩, .inl rfl, fun b p s g hs hlow hS h => ?_⟩
  have e0 := h.eo qe h10
  exact Y0
 ·refine ⟨⟨133, rfl⟩, .inl rfl, fun b p s g hs hlow hS h => ?_⟩
  have e0 := h.er 9 132 qf rfl rfl
  exact Y62
 ·refine ⟨⟨134, rfl⟩, .inl rfl, fun b p s g hs hlow hS h => ?_⟩
  have e0 := h.eo qe h8
  have e1 := h.er 10 133 qf rfl rfl
  exact Y72
 ·refine ⟨⟨135, rfl⟩, .inr ⟨29, rfl, by kernel_rfl⟩, fun b p s g hs hlow hS h => ?_⟩
  have e0 := h.er 11 134 qf rfl rfl
  obtain ⟨hf, m0, m1⟩ := hS
  have c0 := (show p.cell? ⟨wb, t - 7, none⟩ = some (.int .u32 (wN (ws.getD (t - 7) 0))) from (WAt.cell (m0 hs) Y95))
  exact Y4
 ·refine ⟨⟨136, rfl⟩, .inl rfl, fun b p s g hs hlow hS h => ?_⟩
  have e0 := h.er 8 131 qf rfl rfl
  have e1 := h.er 12 135 qf rfl rfl
  exact Y8
 ·refine ⟨⟨137, rfl⟩, .inl rfl, fun b p s g hs hlow hS h => ?_⟩
  have e0 := h.eo qe h12
  exact Y0
 ·refine ⟨rfl, .inr ⟨4, rfl, by kernel_rfl⟩, fun b p g hS h => ?_⟩
  have e0 := h.er 14 137 qf rfl rfl
  have e1 : b.eval (.const (.int .u64 7)) = .int .u64 7 := rfl
  obtain ⟨hf, m0, m1⟩ := hS
  refine qG _ qw (qq rfl) 81 _ _ rfl #[.int .u32 (wN ((ws.getD (t - 15) 0))), .int .u64 7] Y99 zC ((xj (ws.getD (t - 15) 0) 7 qe qe p).mono ?_)
  exact Y11
 ·refine ⟨⟨139, rfl⟩, .inl rfl, fun b p s g hs hlow hS h => ?_⟩
  have e0 := h.eo qe h12
  exact Y0
 ·refine ⟨rfl, .inr ⟨15, rfl, by kernel_rfl⟩, fun b p g hS h => ?_⟩
  have e0 := h.er 16 139 qf rfl rfl
  have e1 : b.eval (.const (.int .u64 18)) = .int .u64 18 := rfl
  obtain ⟨hf, m0, m1⟩ := hS
  refine qG _ qw (qq rfl) 81 _ _ rfl #[.int .u32 (wN ((ws.getD (t - 15) 0))), .int .u64 18] Y99 zC ((xj (ws.getD (t - 15) 0) 18 qe qe p).mono ?_)
  exact Y11
 ·refine ⟨⟨141, rfl⟩, .inl rfl, fun b p s g hs hlow hS h => ?_⟩
  have e0 := (show b.eval (.tmp 138) = .int .u32 (wN (qH (ws.getD (t - 15) 0) 7)) from h.st 15 _ 138 qf rfl rfl)
  have e1 := (show b.eval (.tmp 140) = .int .u32 (wN (qH (ws.getD (t - 15) 0) 18)) from h.st 17 _ 140 qf rfl rfl)
  exact Y14
 ·refine ⟨⟨142, rfl⟩, .inl rfl, fun b p s g hs hlow hS h => ?_⟩
  have e0 := h.eo qe h12
  exact Y0
 ·refine ⟨⟨143, rfl⟩, .inl rfl, fun b p s g hs hlow hS h => ?_⟩
  have e0 := h.er 19 142 qf rfl rfl
  refine gw0 rfl rfl ?_
  obtain ⟨ρ, hρ, ec⟩ := evx b
  rw [hρ] at e0 ⊢
  unfold execOp; simp [go_sem, e0, ec, qdY]
 ·refine ⟨⟨144, rfl⟩, .inl rfl, fun b p s g hs hlow hS h => ?_⟩
  have e0 := h.er 18 141 qf rfl rfl
  have e1 := h.er 20 143 qf rfl rfl
  exact Y14
 ·refine ⟨⟨145, rfl⟩, .inl rfl, fun b p s g hs hlow hS h => ?_⟩
  have e0 := h.er 13 136 qf rfl rfl
  have e1 := h.er 21 144 qf rfl rfl
  exact Y8
 ·refine ⟨⟨146, rfl⟩, .inl rfl, fun b p s g hs hlow hS h => ?_⟩
  have e0 := h.eo qe h10
  exact Y0
 ·refine ⟨⟨147, rfl⟩, .inl rfl, fun b p s g hs hlow hS h => ?_⟩
  have e0 := h.er 23 146 qf rfl rfl
  exact Y60
 ·refine ⟨⟨148, rfl⟩, .inl rfl, fun b p s g hs hlow hS h => ?_⟩
  have e0 := h.eo qe h8
  have e1 := h.er 24 147 qf rfl rfl
  exact Y70
 ·refine ⟨⟨149, rfl⟩, .inr ⟨29, rfl, by kernel_rfl⟩, fun b p s g hs hlow hS h => ?_⟩
  have e0 := h.er 25 148 qf rfl rfl
  obtain ⟨hf, m0, m1⟩ := hS
  have c0 := (show p.cell? ⟨wb, t - 16, none⟩ = some (.int .u32 (wN (ws.getD (t - 16) 0))) from (WAt.cell (m0 hs) Y95))
  exact Y4
 ·refine ⟨⟨150, rfl⟩, .inl rfl, fun b p s g hs hlow hS h => ?_⟩
  have e0 := h.er 22 145 qf rfl rfl
  have e1 := h.er 26 149 qf rfl rfl
  exact Y8
 ·refine ⟨⟨151, rfl⟩, .inl rfl, fun b p s g hs hlow hS h => ?_⟩
  have e0 := h.eo qe h8
  have e1 := h.er 0 123 qf rfl rfl
  exact Y24
 ·refine ⟨rfl, .inr ⟨17, rfl, by kernel_rfl⟩, fun b p g hS h => ?_⟩
  have e0 := h.er 28 151 qf rfl rfl
  have e1 := h.er 27 150 qf rfl rfl
  obtain ⟨hf, m0, m1⟩ := hS
  have hp := m0 qe
  refine jf (K := fun _ p => Fr [wb] w p /\ WAt p wb 158 (ws.set t ((qH (ws.getD (t - 2) 0) 17 ^^^ qH (ws.getD (t - 2) 0) 19 ^^^ zp (ws.getD (t - 2) 0) 10) + ws.getD (t - 7) 0 + (qH (ws.getD (t - 15) 0) 7 ^^^ qH (ws.getD (t - 15) 0) 18 ^^^ zp (ws.getD (t - 15) 0) 3) + ws.getD (t - 16) 0))) (fun v p hv => ⟨⟨hv.1, fun hk => absurd hk qe, fun _ => hv.2⟩, .inl rfl⟩) ?_
  obtain ⟨cur, k1, k2, -, k4⟩ := xD hp
  refine qW (K := fun _ p => Fr [wb] w p /\ WAt p wb 158 (ws.set t ((qH (ws.getD (t - 2) 0) 17 ^^^ qH (ws.getD (t - 2) 0) 19 ^^^ zp (ws.getD (t - 2) 0) 10) + ws.getD (t - 7) 0 + (qH (ws.getD (t - 15) 0) 7 ^^^ qH (ws.getD (t - 15) 0) 18 ^^^ zp (ws.getD (t - 15) 0) 3) + ws.getD (t - 16) 0))) _ qw ?_
  refine qj (.tmp 151) (.tmp 150) rfl rfl (.int .u32 (wN ((qH (ws.getD (t - 2) 0) 17 ^^^ qH (ws.getD (t - 2) 0) 19 ^^^ zp (ws.getD (t - 2) 0) 10) + ws.getD (t - 7) 0 + (qH (ws.getD (t - 15) 0) 7 ^^^ qH (ws.getD (t - 15) 0) 18 ^^^ zp (ws.getD (t - 15) 0) 3) + ws.getD (t - 16) 0))) e0 e1 k1 (by have := k2; omega) qf rfl ?_
  intro p1 f1 a1 _
  exact ⟨rfl, rfl, hf.trans f1, k4 p1 (t) _ a1⟩
 ·exact Y10
end Go.Proofs.YtnafknkchbfpaaaGreatDoor
