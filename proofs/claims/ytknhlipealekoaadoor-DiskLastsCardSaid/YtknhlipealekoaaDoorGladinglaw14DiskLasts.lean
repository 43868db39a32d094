import Derived.Test.YtknhlipealekoaaDoorGladinglaw14
set_option linter.unusedVariables false
set_option linter.unusedSimpArgs false
set_option maxRecDepth 100000
namespace Go.Proofs.YtknhlipealekoaaDoor.K
open Go
attribute [local irreducible] SW SOps SQ SCalls retQ

/-! ### lading/ladinglaw14.DiskLasts: function 4 -/
def ladinglaw14_DiskLasts.j1 (F : Nat) (K : Bool → SH → Prop) (R1 : Sl → Sl → Nat → Option (Nat × Nat) → Option (Nat × Nat) → Sl → Int → Int → SH → Prop) (l78 : Sl) (l79 : Sl) (b80 : Nat) (p81 : Option (Nat × Nat)) (p82 : Option (Nat × Nat)) (l83 : Sl) (x84 : Int) (x85 : Int) (H : SH) : Prop :=
  R1 l78 l79 b80 p81 p82 l83 x84 (w64 (x85 + 1)) H
def ladinglaw14_DiskLasts.j2 (F : Nat) (K : Bool → SH → Prop) (R1 : Sl → Sl → Nat → Option (Nat × Nat) → Option (Nat × Nat) → Sl → Int → Int → SH → Prop) (l70 : Sl) (l71 : Sl) (b72 : Nat) (p73 : Option (Nat × Nat)) (p74 : Option (Nat × Nat)) (l75 : Sl) (x76 : Int) (x77 : Int) (H : SH) : Prop :=
  ladinglaw14_DiskLasts.j1 F K R1 l70 l71 b72 p73 p74 l75 x76 x77 H
def ladinglaw14_DiskLasts.j3 (F : Nat) (K : Bool → SH → Prop) (R2 : Sl → Sl → Nat → Option (Nat × Nat) → Option (Nat × Nat) → Sl → Int → Int → SH → Prop) (l142 : Sl) (l143 : Sl) (b144 : Nat) (p145 : Option (Nat × Nat)) (p146 : Option (Nat × Nat)) (l147 : Sl) (x148 : Int) (x149 : Int) (H : SH) : Prop :=
  R2 l142 l143 b144 p145 p146 l147 x148 (w64 (x149 + 1)) H
def ladinglaw14_DiskLasts.j4 (F : Nat) (K : Bool → SH → Prop) (R2 : Sl → Sl → Nat → Option (Nat × Nat) → Option (Nat × Nat) → Sl → Int → Int → SH → Prop) (l134 : Sl) (l135 : Sl) (b136 : Nat) (p137 : Option (Nat × Nat)) (p138 : Option (Nat × Nat)) (l139 : Sl) (x140 : Int) (x141 : Int) (H : SH) : Prop :=
  ladinglaw14_DiskLasts.j3 F K R2 l134 l135 b136 p137 p138 l139 x140 x141 H
def ladinglaw14_DiskLasts.j5 (F : Nat) (K : Bool → SH → Prop) (R3 : Sl → Nat → Option (Nat × Nat) → Option (Nat × Nat) → Option (Nat × Nat) → Sl → Int → Int → SH → Prop) (l199 : Sl) (b200 : Nat) (p201 : Option (Nat × Nat)) (p202 : Option (Nat × Nat)) (p203 : Option (Nat × Nat)) (l204 : Sl) (x205 : Int) (x206 : Int) (H : SH) : Prop :=
  R3 l199 b200 p201 p202 p203 l204 x205 (w64 (x206 + 1)) H
def ladinglaw14_DiskLasts.j6 (F : Nat) (K : Bool → SH → Prop) (R3 : Sl → Nat → Option (Nat × Nat) → Option (Nat × Nat) → Option (Nat × Nat) → Sl → Int → Int → SH → Prop) (l191 : Sl) (b192 : Nat) (p193 : Option (Nat × Nat)) (p194 : Option (Nat × Nat)) (p195 : Option (Nat × Nat)) (l196 : Sl) (x197 : Int) (x198 : Int) (H : SH) : Prop :=
  ladinglaw14_DiskLasts.j5 F K R3 l191 b192 p193 p194 p195 l196 x197 x198 H
def ladinglaw14_DiskLasts.j7 (F : Nat) (K : Bool → SH → Prop) (R4 : Nat → Option (Nat × Nat) → Option (Nat × Nat) → Option (Nat × Nat) → Sl → Int → Int → SH → Prop) (b254 : Nat) (p255 : Option (Nat × Nat)) (p256 : Option (Nat × Nat)) (p257 : Option (Nat × Nat)) (l258 : Sl) (x259 : Int) (x260 : Int) (H : SH) : Prop :=
  R4 b254 p255 p256 p257 l258 x259 (w64 (x260 + 1)) H
def ladinglaw14_DiskLasts.j8 (F : Nat) (K : Bool → SH → Prop) (R4 : Nat → Option (Nat × Nat) → Option (Nat × Nat) → Option (Nat × Nat) → Sl → Int → Int → SH → Prop) (b247 : Nat) (p248 : Option (Nat × Nat)) (p249 : Option (Nat × Nat)) (p250 : Option (Nat × Nat)) (l251 : Sl) (x252 : Int) (x253 : Int) (H : SH) : Prop :=
  ladinglaw14_DiskLasts.j7 F K R4 b247 p248 p249 p250 l251 x252 x253 H
def ladinglaw14_DiskLasts.r4 (F : Nat) (K : Bool → SH → Prop) (R4 : Nat → Option (Nat × Nat) → Option (Nat × Nat) → Option (Nat × Nat) → Sl → Int → Int → SH → Prop) (b211 : Nat) (p212 : Option (Nat × Nat)) (p213 : Option (Nat × Nat)) (p214 : Option (Nat × Nat)) (l215 : Sl) (x216 : Int) (x217 : Int) (H : SH) : Prop :=
  (x217 < x216 →
    ∃ p219, l215.a = some p219 ∧ 0 ≤ x217 ∧ x217 < (l215.len : Int) ∧
    ∃ (x223 : Int) (x224 : Int) (x225 : Int) (x226 : Int) (s227 : ByteArray) (l228 : SlW) (x229 : Int),
    SH.row H (some (p219.1, (p219.2 + x217.toNat * 7))) [.int .i64 x223, .int .i64 x224, .int .i64 x225, .int .u8 x226, .string s227, swv l228, .int .i64 x229] ∧
    ∀ b231, H b231 = none →
    SH.wrs (SH.upd H b231 ⟨[.int .i64 0, .int .i64 0, .int .i64 0, .int .u8 0, .string ByteArray.empty, sv Sl.nil, .int .i64 0], 41, false, 7⟩) (b231, 0) 7 ∧
    ∃ (x234 : Int),
    SH.has (SH.setl (SH.upd H b231 ⟨[.int .i64 0, .int .i64 0, .int .i64 0, .int .u8 0, .string ByteArray.empty, sv Sl.nil, .int .i64 0], 41, false, 7⟩) (b231, 0) [.int .i64 x223, .int .i64 x224, .int .i64 x225, .int .u8 x226, .string s227, swv l228, .int .i64 x229]) (b231, 0) (.int .i64 x234) ∧
    (x234 ≤ 1 →
      ∃ (x237 : Int) (x238 : Int) (x239 : Int) (x240 : Int) (s241 : ByteArray) (l242 : SlW) (x243 : Int),
      SH.row (SH.setl (SH.upd H b231 ⟨[.int .i64 0, .int .i64 0, .int .i64 0, .int .u8 0, .string ByteArray.empty, sv Sl.nil, .int .i64 0], 41, false, 7⟩) (b231, 0) [.int .i64 x223, .int .i64 x224, .int .i64 x225, .int .u8 x226, .string s227, swv l228, .int .i64 x229]) (some (b231, 0)) [.int .i64 x237, .int .i64 x238, .int .i64 x239, .int .u8 x240, .string s241, swv l242, .int .i64 x243] ∧
      ladinglaw14_Do.wp F p214 x237 x238 x239 x240 s241 l242 x243 (SH.setl (SH.upd H b231 ⟨[.int .i64 0, .int .i64 0, .int .i64 0, .int .u8 0, .string ByteArray.empty, sv Sl.nil, .int .i64 0], 41, false, 7⟩) (b231, 0) [.int .i64 x223, .int .i64 x224, .int .i64 x225, .int .u8 x226, .string s227, swv l228, .int .i64 x229]) (fun x245 H246 =>
        ladinglaw14_DiskLasts.j8 F K R4 b211 p212 p213 p214 l215 x216 x217 H246
      )
    ) ∧ (¬ (x234 ≤ 1) →
      ladinglaw14_DiskLasts.j8 F K R4 b211 p212 p213 p214 l215 x216 x217 (SH.setl (SH.upd H b231 ⟨[.int .i64 0, .int .i64 0, .int .i64 0, .int .u8 0, .string ByteArray.empty, sv Sl.nil, .int .i64 0], 41, false, 7⟩) (b231, 0) [.int .i64 x223, .int .i64 x224, .int .i64 x225, .int .u8 x226, .string s227, swv l228, .int .i64 x229])
    )
  ) ∧ (¬ (x217 < x216) →
    disk_Disk_Crash.wp F p214 Sl.nil 0 H (fun H263 =>
      disk_Disk_Same.wp F p214 p213 H263 (fun q264 H265 =>
        (q264 = true →
          ∃ (l267 : Sl) (x268 : Int),
          SH.row H265 (some (b211, 0)) [sv l267, .int .i64 x268] ∧
          disk_Disk_Crash.wp F p212 l267 x268 H265 (fun H270 =>
            disk_Disk_Log.wp F p212 H270 (fun s271 e272 H273 =>
              disk_Disk_Log.wp F p213 H273 (fun s274 e275 H276 =>
                (e272 = none →
                  (e275 = none →
                    ((s271.size : Int) ≥ (s274.size : Int) →
                      0 ≤ (0 : Int) ∧
                      (0 : Int) ≤ (s274.size : Int) ∧
                      (s274.size : Int) ≤ (s271.size : Int) ∧
                      ((s271.extract (0 : Int).toNat (s274.size : Int).toNat) = s274 →
                        disk_Disk_Waits.wp F p212 H276 (fun x284 H285 =>
                          ∃ Hr, SH.le Hr H285 ∧ K (x284 == 0) Hr
                        )
                      ) ∧ (¬ ((s271.extract (0 : Int).toNat (s274.size : Int).toNat) = s274) →
                        ∃ Hr, SH.le Hr H276 ∧ K false Hr
                      )
                    ) ∧ (¬ ((s271.size : Int) ≥ (s274.size : Int)) →
                      ∃ Hr, SH.le Hr H276 ∧ K false Hr
                    )
                  ) ∧ (∀ v278, e275 = some v278 →
                    ∃ Hr, SH.le Hr H276 ∧ K false Hr
                  )
                ) ∧ (∀ v277, e272 = some v277 →
                  ∃ Hr, SH.le Hr H276 ∧ K false Hr
                )
              )
            )
          )
        ) ∧ (¬ (q264 = true) →
          ∃ Hr, SH.le Hr H265 ∧ K false Hr
        )
      )
    )
  )
def ladinglaw14_DiskLasts.l4 (F : Nat) (K : Bool → SH → Prop) : Nat → Nat → Option (Nat × Nat) → Option (Nat × Nat) → Option (Nat × Nat) → Sl → Int → Int → SH → Prop
  | 0, _, _, _, _, _, _, _, _ => False
  | k + 1, b211, p212, p213, p214, l215, x216, x217, H => ladinglaw14_DiskLasts.r4 F K (ladinglaw14_DiskLasts.l4 F K k) b211 p212 p213 p214 l215 x216 x217 H
def ladinglaw14_DiskLasts.r3 (F : Nat) (K : Bool → SH → Prop) (R3 : Sl → Nat → Option (Nat × Nat) → Option (Nat × Nat) → Option (Nat × Nat) → Sl → Int → Int → SH → Prop) (l154 : Sl) (b155 : Nat) (p156 : Option (Nat × Nat)) (p157 : Option (Nat × Nat)) (p158 : Option (Nat × Nat)) (l159 : Sl) (x160 : Int) (x161 : Int) (H : SH) : Prop :=
  (x161 < x160 →
    ∃ p163, l159.a = some p163 ∧ 0 ≤ x161 ∧ x161 < (l159.len : Int) ∧
    ∃ (x167 : Int) (x168 : Int) (x169 : Int) (x170 : Int) (s171 : ByteArray) (l172 : SlW) (x173 : Int),
    SH.row H (some (p163.1, (p163.2 + x161.toNat * 7))) [.int .i64 x167, .int .i64 x168, .int .i64 x169, .int .u8 x170, .string s171, swv l172, .int .i64 x173] ∧
    ∀ b175, H b175 = none →
    SH.wrs (SH.upd H b175 ⟨[.int .i64 0, .int .i64 0, .int .i64 0, .int .u8 0, .string ByteArray.empty, sv Sl.nil, .int .i64 0], 41, false, 7⟩) (b175, 0) 7 ∧
    ∃ (x178 : Int),
    SH.has (SH.setl (SH.upd H b175 ⟨[.int .i64 0, .int .i64 0, .int .i64 0, .int .u8 0, .string ByteArray.empty, sv Sl.nil, .int .i64 0], 41, false, 7⟩) (b175, 0) [.int .i64 x167, .int .i64 x168, .int .i64 x169, .int .u8 x170, .string s171, swv l172, .int .i64 x173]) (b175, 0) (.int .i64 x178) ∧
    (x178 ≤ 1 →
      ∃ (x181 : Int) (x182 : Int) (x183 : Int) (x184 : Int) (s185 : ByteArray) (l186 : SlW) (x187 : Int),
      SH.row (SH.setl (SH.upd H b175 ⟨[.int .i64 0, .int .i64 0, .int .i64 0, .int .u8 0, .string ByteArray.empty, sv Sl.nil, .int .i64 0], 41, false, 7⟩) (b175, 0) [.int .i64 x167, .int .i64 x168, .int .i64 x169, .int .u8 x170, .string s171, swv l172, .int .i64 x173]) (some (b175, 0)) [.int .i64 x181, .int .i64 x182, .int .i64 x183, .int .u8 x184, .string s185, swv l186, .int .i64 x187] ∧
      ladinglaw14_Do.wp F p158 x181 x182 x183 x184 s185 l186 x187 (SH.setl (SH.upd H b175 ⟨[.int .i64 0, .int .i64 0, .int .i64 0, .int .u8 0, .string ByteArray.empty, sv Sl.nil, .int .i64 0], 41, false, 7⟩) (b175, 0) [.int .i64 x167, .int .i64 x168, .int .i64 x169, .int .u8 x170, .string s171, swv l172, .int .i64 x173]) (fun x189 H190 =>
        ladinglaw14_DiskLasts.j6 F K R3 l154 b155 p156 p157 p158 l159 x160 x161 H190
      )
    ) ∧ (¬ (x178 ≤ 1) →
      ladinglaw14_DiskLasts.j6 F K R3 l154 b155 p156 p157 p158 l159 x160 x161 (SH.setl (SH.upd H b175 ⟨[.int .i64 0, .int .i64 0, .int .i64 0, .int .u8 0, .string ByteArray.empty, sv Sl.nil, .int .i64 0], 41, false, 7⟩) (b175, 0) [.int .i64 x167, .int .i64 x168, .int .i64 x169, .int .u8 x170, .string s171, swv l172, .int .i64 x173])
    )
  ) ∧ (¬ (x161 < x160) →
    disk_Disk_Sync.wp F p158 H (fun e209 H210 =>
      ladinglaw14_DiskLasts.l4 F K F b155 p156 p157 p158 l154 (l154.len : Int) 0 H210
    )
  )
def ladinglaw14_DiskLasts.l3 (F : Nat) (K : Bool → SH → Prop) : Nat → Sl → Nat → Option (Nat × Nat) → Option (Nat × Nat) → Option (Nat × Nat) → Sl → Int → Int → SH → Prop
  | 0, _, _, _, _, _, _, _, _, _ => False
  | k + 1, l154, b155, p156, p157, p158, l159, x160, x161, H => ladinglaw14_DiskLasts.r3 F K (ladinglaw14_DiskLasts.l3 F K k) l154 b155 p156 p157 p158 l159 x160 x161 H
def ladinglaw14_DiskLasts.r2 (F : Nat) (K : Bool → SH → Prop) (R2 : Sl → Sl → Nat → Option (Nat × Nat) → Option (Nat × Nat) → Sl → Int → Int → SH → Prop) (l97 : Sl) (l98 : Sl) (b99 : Nat) (p100 : Option (Nat × Nat)) (p101 : Option (Nat × Nat)) (l102 : Sl) (x103 : Int) (x104 : Int) (H : SH) : Prop :=
  (x104 < x103 →
    ∃ p106, l102.a = some p106 ∧ 0 ≤ x104 ∧ x104 < (l102.len : Int) ∧
    ∃ (x110 : Int) (x111 : Int) (x112 : Int) (x113 : Int) (s114 : ByteArray) (l115 : SlW) (x116 : Int),
    SH.row H (some (p106.1, (p106.2 + x104.toNat * 7))) [.int .i64 x110, .int .i64 x111, .int .i64 x112, .int .u8 x113, .string s114, swv l115, .int .i64 x116] ∧
    ∀ b118, H b118 = none →
    SH.wrs (SH.upd H b118 ⟨[.int .i64 0, .int .i64 0, .int .i64 0, .int .u8 0, .string ByteArray.empty, sv Sl.nil, .int .i64 0], 41, false, 7⟩) (b118, 0) 7 ∧
    ∃ (x121 : Int),
    SH.has (SH.setl (SH.upd H b118 ⟨[.int .i64 0, .int .i64 0, .int .i64 0, .int .u8 0, .string ByteArray.empty, sv Sl.nil, .int .i64 0], 41, false, 7⟩) (b118, 0) [.int .i64 x110, .int .i64 x111, .int .i64 x112, .int .u8 x113, .string s114, swv l115, .int .i64 x116]) (b118, 0) (.int .i64 x121) ∧
    (x121 ≤ 1 →
      ∃ (x124 : Int) (x125 : Int) (x126 : Int) (x127 : Int) (s128 : ByteArray) (l129 : SlW) (x130 : Int),
      SH.row (SH.setl (SH.upd H b118 ⟨[.int .i64 0, .int .i64 0, .int .i64 0, .int .u8 0, .string ByteArray.empty, sv Sl.nil, .int .i64 0], 41, false, 7⟩) (b118, 0) [.int .i64 x110, .int .i64 x111, .int .i64 x112, .int .u8 x113, .string s114, swv l115, .int .i64 x116]) (some (b118, 0)) [.int .i64 x124, .int .i64 x125, .int .i64 x126, .int .u8 x127, .string s128, swv l129, .int .i64 x130] ∧
      ladinglaw14_Do.wp F p100 x124 x125 x126 x127 s128 l129 x130 (SH.setl (SH.upd H b118 ⟨[.int .i64 0, .int .i64 0, .int .i64 0, .int .u8 0, .string ByteArray.empty, sv Sl.nil, .int .i64 0], 41, false, 7⟩) (b118, 0) [.int .i64 x110, .int .i64 x111, .int .i64 x112, .int .u8 x113, .string s114, swv l115, .int .i64 x116]) (fun x132 H133 =>
        ladinglaw14_DiskLasts.j4 F K R2 l97 l98 b99 p100 p101 l102 x103 x104 H133
      )
    ) ∧ (¬ (x121 ≤ 1) →
      ladinglaw14_DiskLasts.j4 F K R2 l97 l98 b99 p100 p101 l102 x103 x104 (SH.setl (SH.upd H b118 ⟨[.int .i64 0, .int .i64 0, .int .i64 0, .int .u8 0, .string ByteArray.empty, sv Sl.nil, .int .i64 0], 41, false, 7⟩) (b118, 0) [.int .i64 x110, .int .i64 x111, .int .i64 x112, .int .u8 x113, .string s114, swv l115, .int .i64 x116])
    )
  ) ∧ (¬ (x104 < x103) →
    disk_New.wp F 4 H (fun p152 H153 =>
      ladinglaw14_DiskLasts.l3 F K F l98 b99 p100 p101 p152 l97 (l97.len : Int) 0 H153
    )
  )
def ladinglaw14_DiskLasts.l2 (F : Nat) (K : Bool → SH → Prop) : Nat → Sl → Sl → Nat → Option (Nat × Nat) → Option (Nat × Nat) → Sl → Int → Int → SH → Prop
  | 0, _, _, _, _, _, _, _, _, _ => False
  | k + 1, l97, l98, b99, p100, p101, l102, x103, x104, H => ladinglaw14_DiskLasts.r2 F K (ladinglaw14_DiskLasts.l2 F K k) l97 l98 b99 p100 p101 l102 x103 x104 H
def ladinglaw14_DiskLasts.r1 (F : Nat) (K : Bool → SH → Prop) (R1 : Sl → Sl → Nat → Option (Nat × Nat) → Option (Nat × Nat) → Sl → Int → Int → SH → Prop) (l23 : Sl) (l24 : Sl) (b25 : Nat) (p26 : Option (Nat × Nat)) (p27 : Option (Nat × Nat)) (l28 : Sl) (x29 : Int) (x30 : Int) (H : SH) : Prop :=
  (x30 < x29 →
    ∃ p32, l28.a = some p32 ∧ 0 ≤ x30 ∧ x30 < (l28.len : Int) ∧
    ∃ (x36 : Int) (x37 : Int) (x38 : Int) (x39 : Int) (s40 : ByteArray) (l41 : SlW) (x42 : Int),
    SH.row H (some (p32.1, (p32.2 + x30.toNat * 7))) [.int .i64 x36, .int .i64 x37, .int .i64 x38, .int .u8 x39, .string s40, swv l41, .int .i64 x42] ∧
    ∀ b44, H b44 = none →
    SH.wrs (SH.upd H b44 ⟨[.int .i64 0, .int .i64 0, .int .i64 0, .int .u8 0, .string ByteArray.empty, sv Sl.nil, .int .i64 0], 41, false, 7⟩) (b44, 0) 7 ∧
    ∃ (x47 : Int),
    SH.has (SH.setl (SH.upd H b44 ⟨[.int .i64 0, .int .i64 0, .int .i64 0, .int .u8 0, .string ByteArray.empty, sv Sl.nil, .int .i64 0], 41, false, 7⟩) (b44, 0) [.int .i64 x36, .int .i64 x37, .int .i64 x38, .int .u8 x39, .string s40, swv l41, .int .i64 x42]) (b44, 0) (.int .i64 x47) ∧
    (x47 ≤ 1 →
      ∃ (x50 : Int) (x51 : Int) (x52 : Int) (x53 : Int) (s54 : ByteArray) (l55 : SlW) (x56 : Int),
      SH.row (SH.setl (SH.upd H b44 ⟨[.int .i64 0, .int .i64 0, .int .i64 0, .int .u8 0, .string ByteArray.empty, sv Sl.nil, .int .i64 0], 41, false, 7⟩) (b44, 0) [.int .i64 x36, .int .i64 x37, .int .i64 x38, .int .u8 x39, .string s40, swv l41, .int .i64 x42]) (some (b44, 0)) [.int .i64 x50, .int .i64 x51, .int .i64 x52, .int .u8 x53, .string s54, swv l55, .int .i64 x56] ∧
      ladinglaw14_Do.wp F p26 x50 x51 x52 x53 s54 l55 x56 (SH.setl (SH.upd H b44 ⟨[.int .i64 0, .int .i64 0, .int .i64 0, .int .u8 0, .string ByteArray.empty, sv Sl.nil, .int .i64 0], 41, false, 7⟩) (b44, 0) [.int .i64 x36, .int .i64 x37, .int .i64 x38, .int .u8 x39, .string s40, swv l41, .int .i64 x42]) (fun x58 H59 =>
        ∃ (x60 : Int) (x61 : Int) (x62 : Int) (x63 : Int) (s64 : ByteArray) (l65 : SlW) (x66 : Int),
        SH.row H59 (some (b44, 0)) [.int .i64 x60, .int .i64 x61, .int .i64 x62, .int .u8 x63, .string s64, swv l65, .int .i64 x66] ∧
        ladinglaw14_Do.wp F p27 x60 x61 x62 x63 s64 l65 x66 H59 (fun x68 H69 =>
          ladinglaw14_DiskLasts.j2 F K R1 l23 l24 b25 p26 p27 l28 x29 x30 H69
        )
      )
    ) ∧ (¬ (x47 ≤ 1) →
      ladinglaw14_DiskLasts.j2 F K R1 l23 l24 b25 p26 p27 l28 x29 x30 (SH.setl (SH.upd H b44 ⟨[.int .i64 0, .int .i64 0, .int .i64 0, .int .u8 0, .string ByteArray.empty, sv Sl.nil, .int .i64 0], 41, false, 7⟩) (b44, 0) [.int .i64 x36, .int .i64 x37, .int .i64 x38, .int .u8 x39, .string s40, swv l41, .int .i64 x42])
    )
  ) ∧ (¬ (x30 < x29) →
    disk_Disk_Sync.wp F p26 H (fun e88 H89 =>
      (e88 = none →
        disk_Disk_Sync.wp F p27 H89 (fun e91 H92 =>
          (e91 = none →
            disk_Disk_Same.wp F p26 p27 H92 (fun q94 H95 =>
              (q94 = true →
                ladinglaw14_DiskLasts.l2 F K F l23 l24 b25 p26 p27 l24 (l24.len : Int) 0 H95
              ) ∧ (¬ (q94 = true) →
                ∃ Hr, SH.le Hr H95 ∧ K false Hr
              )
            )
          ) ∧ (∀ v93, e91 = some v93 →
            ∃ Hr, SH.le Hr H92 ∧ K false Hr
          )
        )
      ) ∧ (∀ v90, e88 = some v90 →
        ∃ Hr, SH.le Hr H89 ∧ K false Hr
      )
    )
  )
def ladinglaw14_DiskLasts.l1 (F : Nat) (K : Bool → SH → Prop) : Nat → Sl → Sl → Nat → Option (Nat × Nat) → Option (Nat × Nat) → Sl → Int → Int → SH → Prop
  | 0, _, _, _, _, _, _, _, _, _ => False
  | k + 1, l23, l24, b25, p26, p27, l28, x29, x30, H => ladinglaw14_DiskLasts.r1 F K (ladinglaw14_DiskLasts.l1 F K k) l23 l24 b25 p26 p27 l28 x29 x30 H
def ladinglaw14_DiskLasts.wp (F : Nat) (l1 : Sl) (l2 : Sl) (l3 : Sl) (x4 : Int) (H : SH) (K : Bool → SH → Prop) : Prop :=
  ∀ b5, H b5 = none →
  ladinglaw14_awake.wp F  (SH.upd H b5 ⟨[sv l3, .int .i64 x4], 36, false, 2⟩) (fun q7 H8 =>
    (q7 = true →
      ladinglaw14_Great.wp F l1 H8 (fun q10 H11 =>
        (q10 = true →
          ∃ Hr, SH.le Hr H11 ∧ K true Hr
        ) ∧ (¬ (q10 = true) →
          ladinglaw14_Great.wp F l2 H11 (fun q13 H14 =>
            (q13 = true →
              ∃ Hr, SH.le Hr H14 ∧ K true Hr
            ) ∧ (¬ (q13 = true) →
              ∃ (l16 : Sl),
              SH.has H14 (b5, 0) (sv l16) ∧
              ((l16.len : Int) > 200 →
                ∃ Hr, SH.le Hr H14 ∧ K true Hr
              ) ∧ (¬ ((l16.len : Int) > 200) →
                disk_New.wp F 4 H14 (fun p19 H20 =>
                  disk_New.wp F 4 H20 (fun p21 H22 =>
                    ladinglaw14_DiskLasts.l1 F K F l1 l2 b5 p19 p21 l1 (l1.len : Int) 0 H22
                  )
                )
              )
            )
          )
        )
      )
    ) ∧ (¬ (q7 = true) →
      ∃ Hr, SH.le Hr H8 ∧ K false Hr
    )
  )
set_option maxHeartbeats 8000000 in
theorem ladinglaw14_DiskLasts.sound (F : Nat) (l1 : Sl) (l2 : Sl) (l3 : Sl) (x4 : Int) (H : SH) (K : Bool → SH → Prop) (h : ladinglaw14_DiskLasts.wp F l1 l2 l3 x4 H K) : SCalls Tryd.prog 4 #[sv l1, sv l2, .agg #[sv l3, .int .i64 x4]] H (fun v H' => ∃ (q295 : Bool), v = .bool q295 ∧ K q295 H') := by
  unfold ladinglaw14_DiskLasts.wp at h
  refine SCalls.body Tryd.func4 rfl (Nat.le_of_ble_eq_true rfl) ?_
  refine SW.seq ?_
  refine SW.region ?_
  refine SOps.box rfl rfl (wantN rfl) (v := .agg #[sv l3, .int .i64 x4]) rfl (fun b5 c6 => ?_)
  replace h := h b5 c6
  refine SOps.val (v := .bool false) rfl (wantN rfl) (fun _ => by kernel_rfl) ?_
  refine SOps.nil ?_
  refine SW.seq ?_
  refine SW.seq ?_
  refine SW.region ?_
  refine SOps.enter rfl (wantN rfl) (fun _ => by kernel_rfl) (ladinglaw14_awake.sound F  (SH.upd H b5 ⟨[sv l3, .int .i64 x4], 36, false, 2⟩) _ h) ?_
  clear h
  rintro v H8 ⟨q7, rfl, h⟩
  refine SOps.val (v := .bool (!q7)) rfl (wantN rfl) (fun _ => by kernel_rfl) ?_
  refine SOps.nil ?_
  by_cases c9 : q7 = true
  · replace h := h.1 c9
    have dc9 : q7 = true := c9
    refine SW.cond_f (t := !q7) rfl (not_t dc9) ?_
    refine SW.skip ?_
    refine SW.seq ?_
    refine SW.seq ?_
    refine SW.region ?_
    refine SOps.val (v := sv l1) rfl (wantN rfl) (fun _ => by kernel_rfl) ?_
    refine SOps.enter rfl (wantN rfl) (fun _ => by kernel_rfl) (ladinglaw14_Great.sound F l1 H8 _ h) ?_
    clear h
    rintro v H11 ⟨q10, rfl, h⟩
    refine SOps.val (v := .bool q10) rfl (wantN rfl) (fun _ => by kernel_rfl) ?_
    by_cases c12 : q10 = true
    · replace h := h.1 c12
      have dc12 : q10 = true := c12
      refine SOps.off rfl (wantX (c := q10) rfl rfl rfl dc12) ?_
      refine SOps.off rfl (wantX (c := q10) rfl rfl rfl dc12) ?_
      refine SOps.val (v := .bool true) rfl (wantN rfl) (fun w => ev_pickT (v := .bool true) rfl (t := q10) rfl dc12 rfl w) ?_
      refine SOps.val (v := .bool true) rfl (wantN rfl) (fun _ => by kernel_rfl) ?_
      refine SOps.off rfl (wantX (c := true) rfl rfl rfl rfl) ?_
      refine SOps.off rfl (wantX (c := true) rfl rfl rfl rfl) ?_
      refine SOps.off rfl (wantX (c := true) rfl rfl rfl rfl) ?_
      refine SOps.off rfl (wantX (c := true) rfl rfl rfl rfl) ?_
      refine SOps.val (v := .bool true) rfl (wantN rfl) (fun w => ev_pickT (v := .bool true) rfl (t := true) rfl rfl rfl w) ?_
      refine SOps.nil ?_
      refine SW.cond_t (t := true) rfl rfl ?_
      refine SW.seq ?_
      refine SW.region ?_
      refine SOps.val (v := .bool true) rfl (wantN rfl) (fun _ => by kernel_rfl) ?_
      refine SOps.nil ?_
      obtain ⟨Hr, hr, h⟩ := h
      exact SW.ret (retQ.mk (.bool true) (res1 rfl rfl) hr ⟨true, rfl, h⟩)
    · replace h := h.2 c12
      have dc12 : q10 = false := (Bool.eq_false_iff.mpr c12)
      refine SOps.val (v := sv l2) rfl (wantY (c := q10) rfl rfl rfl dc12) (fun _ => by kernel_rfl) ?_
      refine SOps.enter rfl (wantY (c := q10) rfl rfl rfl dc12) (fun _ => by kernel_rfl) (ladinglaw14_Great.sound F l2 H11 _ h) ?_
      clear h
      rintro v H14 ⟨q13, rfl, h⟩
      refine SOps.val (v := .bool q13) rfl (wantN rfl) (fun w => ev_pickF (v := .bool q13) rfl (t := q10) rfl dc12 rfl w) ?_
      refine SOps.val (v := .bool q13) rfl (wantN rfl) (fun _ => by kernel_rfl) ?_
      by_cases c15 : q13 = true
      · replace h := h.1 c15
        have dc15 : q13 = true := c15
        refine SOps.off rfl (wantX (c := q13) rfl rfl rfl dc15) ?_
        refine SOps.off rfl (wantX (c := q13) rfl rfl rfl dc15) ?_
        refine SOps.off rfl (wantX (c := q13) rfl rfl rfl dc15) ?_
        refine SOps.off rfl (wantX (c := q13) rfl rfl rfl dc15) ?_
        refine SOps.val (v := .bool true) rfl (wantN rfl) (fun w => ev_pickT (v := .bool true) rfl (t := q13) rfl dc15 rfl w) ?_
        refine SOps.nil ?_
        refine SW.cond_t (t := true) rfl rfl ?_
        refine SW.seq ?_
        refine SW.region ?_
        refine SOps.val (v := .bool true) rfl (wantN rfl) (fun _ => by kernel_rfl) ?_
        refine SOps.nil ?_
        obtain ⟨Hr, hr, h⟩ := h
        exact SW.ret (retQ.mk (.bool true) (res1 rfl rfl) hr ⟨true, rfl, h⟩)
      · replace h := h.2 c15
        have dc15 : q13 = false := (Bool.eq_false_iff.mpr c15)
        refine SOps.val (v := pv (some (b5, 0))) rfl (wantY (c := q13) rfl rfl rfl dc15) (fun _ => by kernel_rfl) ?_
        obtain ⟨l16, c17, h⟩ := h
        refine SOps.rd (v := sv l16) rfl (wantY (c := q13) rfl rfl rfl dc15) (fun w hw => ev_load1 rfl (fun _ => by kernel_rfl) (p := (b5, 0)) rfl c17 w hw) ?_
        refine SOps.val (v := .int .i64 (l16.len : Int)) rfl (wantY (c := q13) rfl rfl rfl dc15) (fun _ => by kernel_rfl) ?_
        refine SOps.val (v := .bool (decide ((l16.len : Int) > 200))) rfl (wantY (c := q13) rfl rfl rfl dc15) (fun _ => by kernel_rfl) ?_
        refine SOps.val (v := .bool (decide ((l16.len : Int) > 200))) rfl (wantN rfl) (fun w => ev_pickF (v := .bool (decide ((l16.len : Int) > 200))) rfl (t := q13) rfl dc15 rfl w) ?_
        refine SOps.nil ?_
        by_cases c18 : (l16.len : Int) > 200
        · replace h := h.1 c18
          have dc18 : (decide ((l16.len : Int) > 200)) = true := (decide_eq_true c18)
          refine SW.cond_t (t := decide ((l16.len : Int) > 200)) rfl dc18 ?_
          refine SW.seq ?_
          refine SW.region ?_
          refine SOps.val (v := .bool true) rfl (wantN rfl) (fun _ => by kernel_rfl) ?_
          refine SOps.nil ?_
          obtain ⟨Hr, hr, h⟩ := h
          exact SW.ret (retQ.mk (.bool true) (res1 rfl rfl) hr ⟨true, rfl, h⟩)
        · replace h := h.2 c18
          have dc18 : (decide ((l16.len : Int) > 200)) = false := (decide_eq_false c18)
          refine SW.cond_f (t := decide ((l16.len : Int) > 200)) rfl dc18 ?_
          refine SW.skip ?_
          refine SW.seq ?_
          refine SW.region ?_
          refine SOps.enter rfl (wantN rfl) (fun _ => by kernel_rfl) (disk_New.sound F 4 H14 _ h) ?_
          clear h
          rintro v H20 ⟨p19, rfl, h⟩
          refine SOps.enter rfl (wantN rfl) (fun _ => by kernel_rfl) (disk_New.sound F 4 H20 _ h) ?_
          clear h
          rintro v H22 ⟨p21, rfl, h⟩
          refine SOps.val (v := pv p19) rfl (wantN rfl) (fun _ => by kernel_rfl) ?_
          refine SOps.val (v := pv p21) rfl (wantN rfl) (fun _ => by kernel_rfl) ?_
          refine SOps.nil ?_
          refine SW.seq ?_
          refine SW.seq ?_
          refine SW.region ?_
          refine SOps.val (v := sv l1) rfl (wantN rfl) (fun _ => by kernel_rfl) ?_
          refine SOps.val (v := .int .i64 (l1.len : Int)) rfl (wantN rfl) (fun _ => by kernel_rfl) ?_
          refine SOps.val (v := .int .i64 0) rfl (wantN rfl) (fun _ => by kernel_rfl) ?_
          refine SOps.nil ?_
          refine SW.block ?_
          refine SW.loop (fun k1 fr H => ∃ (g : Fr) (l23 : Sl) (l24 : Sl) (b25 : Nat) (p26 : Option (Nat × Nat)) (p27 : Option (Nat × Nat)) (l28 : Sl) (x29 : Int) (x30 : Int), fr = g.upds [(0, sv l23), (1, sv l24), (5, pv (some (b25, 0))), (7, pv p26), (8, pv p27), (38, sv l28), (39, (.int .i64 x29 : Value)), (40, (.int .i64 x30 : Value))] ∧ ladinglaw14_DiskLasts.l1 F K k1 l23 l24 b25 p26 p27 l28 x29 x30 H) F ⟨_, l1, l2, b5, p19, p21, l1, (l1.len : Int), 0, (Fr.upds_self _ _ ⟨rfl, rfl, rfl, rfl, rfl, rfl, rfl, rfl, trivial⟩), h⟩ ?_
          clear h
          rintro k1 fr H ⟨g, l23, l24, b25, p26, p27, l28, x29, x30, rfl, h⟩
          cases k1 with
          | zero => exact h.elim
          | succ k1 =>
            replace h : ladinglaw14_DiskLasts.r1 F K (ladinglaw14_DiskLasts.l1 F K k1) l23 l24 b25 p26 p27 l28 x29 x30 H := h
            unfold ladinglaw14_DiskLasts.r1 at h
            refine SW.seq ?_
            refine SW.region ?_
            refine SOps.val (v := .bool (decide (x30 < x29))) rfl (wantN rfl) (fun _ => by kernel_rfl) ?_
            refine SOps.nil ?_
            refine SW.seq ?_
            by_cases c31 : x30 < x29
            · replace h := h.1 c31
              have dc31 : (decide (x30 < x29)) = true := (decide_eq_true c31)
              refine SW.cond_t (t := decide (x30 < x29)) rfl dc31 ?_
              refine SW.skip ?_
              refine SW.seqJ (fun fr H => ∃ (g : Fr) (l78 : Sl) (l79 : Sl) (b80 : Nat) (p81 : Option (Nat × Nat)) (p82 : Option (Nat × Nat)) (l83 : Sl) (x84 : Int) (x85 : Int), fr = g.upds [(0, sv l78), (1, sv l79), (5, pv (some (b80, 0))), (7, pv p81), (8, pv p82), (38, sv l83), (39, (.int .i64 x84 : Value)), (40, (.int .i64 x85 : Value))] ∧ ladinglaw14_DiskLasts.j1 F K (ladinglaw14_DiskLasts.l1 F K k1) l78 l79 b80 p81 p82 l83 x84 x85 H) ?_ ?_
              · clear h
                rintro fr H ⟨g, l78, l79, b80, p81, p82, l83, x84, x85, rfl, h⟩
                unfold ladinglaw14_DiskLasts.j1 at h
                refine SW.region ?_
                refine SOps.val (v := .int .i64 (w64 (x85 + 1))) rfl (wantN rfl) (fun _ => by kernel_rfl) ?_
                refine SOps.val (v := .int .i64 (w64 (x85 + 1))) rfl (wantN rfl) (fun _ => by kernel_rfl) ?_
                refine SOps.nil ?_
                exact ⟨k1, Nat.lt_succ_self k1, _, l78, l79, b80, p81, p82, l83, x84, w64 (x85 + 1), (Fr.upds_self _ _ ⟨rfl, rfl, rfl, rfl, rfl, rfl, rfl, rfl, trivial⟩), h⟩
              · skip
                refine SW.blockJ (fun fr H => ∃ (g : Fr) (l70 : Sl) (l71 : Sl) (b72 : Nat) (p73 : Option (Nat × Nat)) (p74 : Option (Nat × Nat)) (l75 : Sl) (x76 : Int) (x77 : Int), fr = g.upds [(0, sv l70), (1, sv l71), (5, pv (some (b72, 0))), (7, pv p73), (8, pv p74), (38, sv l75), (39, (.int .i64 x76 : Value)), (40, (.int .i64 x77 : Value))] ∧ ladinglaw14_DiskLasts.j2 F K (ladinglaw14_DiskLasts.l1 F K k1) l70 l71 b72 p73 p74 l75 x76 x77 H) ?_ ?_
                · clear h
                  rintro fr H ⟨g, l70, l71, b72, p73, p74, l75, x76, x77, rfl, h⟩
                  unfold ladinglaw14_DiskLasts.j2 at h
                  exact ⟨_, l70, l71, b72, p73, p74, l75, x76, x77, Fr.upds_self _ _ ⟨rfl, rfl, rfl, rfl, rfl, rfl, rfl, rfl, trivial⟩, h⟩
                · skip
                  refine SW.seq ?_
                  refine SW.region ?_
                  obtain ⟨p32, c33, c34, c35, h⟩ := h
                  refine SOps.val (v := pv (some (p32.1, (p32.2 + x30.toNat * 7)))) rfl (wantN rfl) (fun w => ev_iaddr rfl Tryd.underlying38 (size := 7) (by kernel_rfl) rfl rfl c33 c34 c35 w) ?_
                  obtain ⟨x36, x37, x38, x39, s40, l41, x42, c43, h⟩ := h
                  refine SOps.rd (v := .agg #[.int .i64 x36, .int .i64 x37, .int .i64 x38, .int .u8 x39, .string s40, swv l41, .int .i64 x42]) rfl (wantN rfl) (fun w hw => ev_loadN rfl (fun _ => by kernel_rfl) (size := 7) (by kernel_rfl) (p := (p32.1, (p32.2 + x30.toNat * 7))) rfl rfl c43 w hw) ?_
                  refine SOps.alloc rfl rfl (wantN rfl) (z := .agg #[.int .i64 0, .int .i64 0, .int .i64 0, .int .u8 0, .string ByteArray.empty, sv Sl.nil, .int .i64 0]) (by kernel_rfl) (fun b44 c45 => ?_)
                  replace h := h b44 c45
                  obtain ⟨c46, h⟩ := h
                  refine SOps.storeL (p := (b44, 0)) (v := .agg #[.int .i64 x36, .int .i64 x37, .int .i64 x38, .int .u8 x39, .string s40, swv l41, .int .i64 x42]) (cs := [.int .i64 x36, .int .i64 x37, .int .i64 x38, .int .u8 x39, .string s40, swv l41, .int .i64 x42]) rfl rfl (wantN rfl) (size := 7) (by kernel_rfl) rfl rfl rfl rfl (by simp [Value.oneCell', errV_one, pv, sv, swv]) c46 ?_
                  refine SOps.nil ?_
                  refine SW.seq ?_
                  refine SW.region ?_
                  refine SOps.val (v := pv (some (b44, 0))) rfl (wantN rfl) (fun _ => by kernel_rfl) ?_
                  obtain ⟨x47, c48, h⟩ := h
                  refine SOps.rd (v := .int .i64 x47) rfl (wantN rfl) (fun w hw => ev_load1 rfl (fun _ => by kernel_rfl) (p := (b44, 0)) rfl c48 w hw) ?_
                  refine SOps.val (v := .bool (decide (x47 ≤ 1))) rfl (wantN rfl) (fun _ => by kernel_rfl) ?_
                  refine SOps.nil ?_
                  by_cases c49 : x47 ≤ 1
                  · replace h := h.1 c49
                    have dc49 : (decide (x47 ≤ 1)) = true := (decide_eq_true c49)
                    refine SW.cond_t (t := decide (x47 ≤ 1)) rfl dc49 ?_
                    refine SW.seq ?_
                    refine SW.region ?_
                    refine SOps.val (v := pv p26) rfl (wantN rfl) (fun _ => by kernel_rfl) ?_
                    obtain ⟨x50, x51, x52, x53, s54, l55, x56, c57, h⟩ := h
                    refine SOps.rd (v := .agg #[.int .i64 x50, .int .i64 x51, .int .i64 x52, .int .u8 x53, .string s54, swv l55, .int .i64 x56]) rfl (wantN rfl) (fun w hw => ev_loadN rfl (fun _ => by kernel_rfl) (size := 7) (by kernel_rfl) (p := (b44, 0)) rfl rfl c57 w hw) ?_
                    refine SOps.enter rfl (wantN rfl) (fun _ => by kernel_rfl) (ladinglaw14_Do.sound F p26 x50 x51 x52 x53 s54 l55 x56 (SH.setl (SH.upd H b44 ⟨[.int .i64 0, .int .i64 0, .int .i64 0, .int .u8 0, .string ByteArray.empty, sv Sl.nil, .int .i64 0], 41, false, 7⟩) (b44, 0) [.int .i64 x36, .int .i64 x37, .int .i64 x38, .int .u8 x39, .string s40, swv l41, .int .i64 x42]) _ h) ?_
                    clear h
                    rintro v H59 ⟨x58, rfl, h⟩
                    refine SOps.nil ?_
                    refine SW.region ?_
                    refine SOps.val (v := pv p27) rfl (wantN rfl) (fun _ => by kernel_rfl) ?_
                    obtain ⟨x60, x61, x62, x63, s64, l65, x66, c67, h⟩ := h
                    refine SOps.rd (v := .agg #[.int .i64 x60, .int .i64 x61, .int .i64 x62, .int .u8 x63, .string s64, swv l65, .int .i64 x66]) rfl (wantN rfl) (fun w hw => ev_loadN rfl (fun _ => by kernel_rfl) (size := 7) (by kernel_rfl) (p := (b44, 0)) rfl rfl c67 w hw) ?_
                    refine SOps.enter rfl (wantN rfl) (fun _ => by kernel_rfl) (ladinglaw14_Do.sound F p27 x60 x61 x62 x63 s64 l65 x66 H59 _ h) ?_
                    clear h
                    rintro v H69 ⟨x68, rfl, h⟩
                    refine SOps.nil ?_
                    exact ⟨_, l23, l24, b25, p26, p27, l28, x29, x30, Fr.upds_self _ _ ⟨rfl, rfl, rfl, rfl, rfl, rfl, rfl, rfl, trivial⟩, h⟩
                  · replace h := h.2 c49
                    have dc49 : (decide (x47 ≤ 1)) = false := (decide_eq_false c49)
                    refine SW.cond_f (t := decide (x47 ≤ 1)) rfl dc49 ?_
                    refine SW.skip ?_
                    exact ⟨_, l23, l24, b25, p26, p27, l28, x29, x30, Fr.upds_self _ _ ⟨rfl, rfl, rfl, rfl, rfl, rfl, rfl, rfl, trivial⟩, h⟩
            · replace h := h.2 c31
              have dc31 : (decide (x30 < x29)) = false := (decide_eq_false c31)
              refine SW.cond_f (t := decide (x30 < x29)) rfl dc31 ?_
              refine SW.exit ?_
              refine SW.seq ?_
              refine SW.seq ?_
              refine SW.region ?_
              refine SOps.val (v := pv p26) rfl (wantN rfl) (fun _ => by kernel_rfl) ?_
              refine SOps.enter rfl (wantN rfl) (fun _ => by kernel_rfl) (disk_Disk_Sync.sound F p26 H _ h) ?_
              clear h
              rintro v H89 ⟨e88, rfl, h⟩
              rcases e88 with _ | v90
              · replace h := h.1 rfl
                refine SOps.val (v := .bool false) rfl (wantN rfl) (fun w => ev_errNe (e := none) rfl Tryd.underlying28 rfl rfl w) ?_
                refine SOps.val (v := .bool false) rfl (wantN rfl) (fun _ => by kernel_rfl) ?_
                refine SOps.val (v := pv p27) rfl (wantY (c := false) rfl rfl rfl rfl) (fun _ => by kernel_rfl) ?_
                refine SOps.enter rfl (wantY (c := false) rfl rfl rfl rfl) (fun _ => by kernel_rfl) (disk_Disk_Sync.sound F p27 H89 _ h) ?_
                clear h
                rintro v H92 ⟨e91, rfl, h⟩
                rcases e91 with _ | v93
                · replace h := h.1 rfl
                  refine SOps.val (v := .bool false) rfl (wantY (c := false) rfl rfl rfl rfl) (fun w => ev_errNe (e := none) rfl Tryd.underlying28 rfl rfl w) ?_
                  refine SOps.val (v := .bool false) rfl (wantN rfl) (fun w => ev_pickF (v := .bool false) rfl (t := false) rfl rfl rfl w) ?_
                  refine SOps.val (v := .bool false) rfl (wantN rfl) (fun _ => by kernel_rfl) ?_
                  refine SOps.val (v := pv p26) rfl (wantY (c := false) rfl rfl rfl rfl) (fun _ => by kernel_rfl) ?_
                  refine SOps.val (v := pv p27) rfl (wantY (c := false) rfl rfl rfl rfl) (fun _ => by kernel_rfl) ?_
                  refine SOps.enter rfl (wantY (c := false) rfl rfl rfl rfl) (fun _ => by kernel_rfl) (disk_Disk_Same.sound F p26 p27 H92 _ h) ?_
                  clear h
                  rintro v H95 ⟨q94, rfl, h⟩
                  refine SOps.val (v := .bool (!q94)) rfl (wantY (c := false) rfl rfl rfl rfl) (fun _ => by kernel_rfl) ?_
                  refine SOps.val (v := .bool (!q94)) rfl (wantN rfl) (fun w => ev_pickF (v := .bool (!q94)) rfl (t := false) rfl rfl rfl w) ?_
                  refine SOps.nil ?_
                  by_cases c96 : q94 = true
                  · replace h := h.1 c96
                    have dc96 : q94 = true := c96
                    refine SW.cond_f (t := !q94) rfl (not_t dc96) ?_
                    refine SW.skip ?_
                    refine SW.seq ?_
                    refine SW.seq ?_
                    refine SW.region ?_
                    refine SOps.val (v := sv l24) rfl (wantN rfl) (fun _ => by kernel_rfl) ?_
                    refine SOps.val (v := .int .i64 (l24.len : Int)) rfl (wantN rfl) (fun _ => by kernel_rfl) ?_
                    refine SOps.val (v := .int .i64 0) rfl (wantN rfl) (fun _ => by kernel_rfl) ?_
                    refine SOps.nil ?_
                    refine SW.block ?_
                    refine SW.loop (fun k2 fr H => ∃ (g : Fr) (l97 : Sl) (l98 : Sl) (b99 : Nat) (p100 : Option (Nat × Nat)) (p101 : Option (Nat × Nat)) (l102 : Sl) (x103 : Int) (x104 : Int), fr = g.upds [(0, sv l97), (1, sv l98), (5, pv (some (b99, 0))), (7, pv p100), (8, pv p101), (68, sv l102), (69, (.int .i64 x103 : Value)), (70, (.int .i64 x104 : Value))] ∧ ladinglaw14_DiskLasts.l2 F K k2 l97 l98 b99 p100 p101 l102 x103 x104 H) F ⟨_, l23, l24, b25, p26, p27, l24, (l24.len : Int), 0, (Fr.upds_self _ _ ⟨rfl, rfl, rfl, rfl, rfl, rfl, rfl, rfl, trivial⟩), h⟩ ?_
                    clear h
                    rintro k2 fr H ⟨g, l97, l98, b99, p100, p101, l102, x103, x104, rfl, h⟩
                    cases k2 with
                    | zero => exact h.elim
                    | succ k2 =>
                      replace h : ladinglaw14_DiskLasts.r2 F K (ladinglaw14_DiskLasts.l2 F K k2) l97 l98 b99 p100 p101 l102 x103 x104 H := h
                      unfold ladinglaw14_DiskLasts.r2 at h
                      refine SW.seq ?_
                      refine SW.region ?_
                      refine SOps.val (v := .bool (decide (x104 < x103))) rfl (wantN rfl) (fun _ => by kernel_rfl) ?_
                      refine SOps.nil ?_
                      refine SW.seq ?_
                      by_cases c105 : x104 < x103
                      · replace h := h.1 c105
                        have dc105 : (decide (x104 < x103)) = true := (decide_eq_true c105)
                        refine SW.cond_t (t := decide (x104 < x103)) rfl dc105 ?_
                        refine SW.skip ?_
                        refine SW.seqJ (fun fr H => ∃ (g : Fr) (l142 : Sl) (l143 : Sl) (b144 : Nat) (p145 : Option (Nat × Nat)) (p146 : Option (Nat × Nat)) (l147 : Sl) (x148 : Int) (x149 : Int), fr = g.upds [(0, sv l142), (1, sv l143), (5, pv (some (b144, 0))), (7, pv p145), (8, pv p146), (68, sv l147), (69, (.int .i64 x148 : Value)), (70, (.int .i64 x149 : Value))] ∧ ladinglaw14_DiskLasts.j3 F K (ladinglaw14_DiskLasts.l2 F K k2) l142 l143 b144 p145 p146 l147 x148 x149 H) ?_ ?_
                        · clear h
                          rintro fr H ⟨g, l142, l143, b144, p145, p146, l147, x148, x149, rfl, h⟩
                          unfold ladinglaw14_DiskLasts.j3 at h
                          refine SW.region ?_
                          refine SOps.val (v := .int .i64 (w64 (x149 + 1))) rfl (wantN rfl) (fun _ => by kernel_rfl) ?_
                          refine SOps.val (v := .int .i64 (w64 (x149 + 1))) rfl (wantN rfl) (fun _ => by kernel_rfl) ?_
                          refine SOps.nil ?_
                          exact ⟨k2, Nat.lt_succ_self k2, _, l142, l143, b144, p145, p146, l147, x148, w64 (x149 + 1), (Fr.upds_self _ _ ⟨rfl, rfl, rfl, rfl, rfl, rfl, rfl, rfl, trivial⟩), h⟩
                        · skip
                          refine SW.blockJ (fun fr H => ∃ (g : Fr) (l134 : Sl) (l135 : Sl) (b136 : Nat) (p137 : Option (Nat × Nat)) (p138 : Option (Nat × Nat)) (l139 : Sl) (x140 : Int) (x141 : Int), fr = g.upds [(0, sv l134), (1, sv l135), (5, pv (some (b136, 0))), (7, pv p137), (8, pv p138), (68, sv l139), (69, (.int .i64 x140 : Value)), (70, (.int .i64 x141 : Value))] ∧ ladinglaw14_DiskLasts.j4 F K (ladinglaw14_DiskLasts.l2 F K k2) l134 l135 b136 p137 p138 l139 x140 x141 H) ?_ ?_
                          · clear h
                            rintro fr H ⟨g, l134, l135, b136, p137, p138, l139, x140, x141, rfl, h⟩
                            unfold ladinglaw14_DiskLasts.j4 at h
                            exact ⟨_, l134, l135, b136, p137, p138, l139, x140, x141, Fr.upds_self _ _ ⟨rfl, rfl, rfl, rfl, rfl, rfl, rfl, rfl, trivial⟩, h⟩
                          · skip
                            refine SW.seq ?_
                            refine SW.region ?_
                            obtain ⟨p106, c107, c108, c109, h⟩ := h
                            refine SOps.val (v := pv (some (p106.1, (p106.2 + x104.toNat * 7)))) rfl (wantN rfl) (fun w => ev_iaddr rfl Tryd.underlying38 (size := 7) (by kernel_rfl) rfl rfl c107 c108 c109 w) ?_
                            obtain ⟨x110, x111, x112, x113, s114, l115, x116, c117, h⟩ := h
                            refine SOps.rd (v := .agg #[.int .i64 x110, .int .i64 x111, .int .i64 x112, .int .u8 x113, .string s114, swv l115, .int .i64 x116]) rfl (wantN rfl) (fun w hw => ev_loadN rfl (fun _ => by kernel_rfl) (size := 7) (by kernel_rfl) (p := (p106.1, (p106.2 + x104.toNat * 7))) rfl rfl c117 w hw) ?_
                            refine SOps.alloc rfl rfl (wantN rfl) (z := .agg #[.int .i64 0, .int .i64 0, .int .i64 0, .int .u8 0, .string ByteArray.empty, sv Sl.nil, .int .i64 0]) (by kernel_rfl) (fun b118 c119 => ?_)
                            replace h := h b118 c119
                            obtain ⟨c120, h⟩ := h
                            refine SOps.storeL (p := (b118, 0)) (v := .agg #[.int .i64 x110, .int .i64 x111, .int .i64 x112, .int .u8 x113, .string s114, swv l115, .int .i64 x116]) (cs := [.int .i64 x110, .int .i64 x111, .int .i64 x112, .int .u8 x113, .string s114, swv l115, .int .i64 x116]) rfl rfl (wantN rfl) (size := 7) (by kernel_rfl) rfl rfl rfl rfl (by simp [Value.oneCell', errV_one, pv, sv, swv]) c120 ?_
                            refine SOps.nil ?_
                            refine SW.seq ?_
                            refine SW.region ?_
                            refine SOps.val (v := pv (some (b118, 0))) rfl (wantN rfl) (fun _ => by kernel_rfl) ?_
                            obtain ⟨x121, c122, h⟩ := h
                            refine SOps.rd (v := .int .i64 x121) rfl (wantN rfl) (fun w hw => ev_load1 rfl (fun _ => by kernel_rfl) (p := (b118, 0)) rfl c122 w hw) ?_
                            refine SOps.val (v := .bool (decide (x121 ≤ 1))) rfl (wantN rfl) (fun _ => by kernel_rfl) ?_
                            refine SOps.nil ?_
                            by_cases c123 : x121 ≤ 1
                            · replace h := h.1 c123
                              have dc123 : (decide (x121 ≤ 1)) = true := (decide_eq_true c123)
                              refine SW.cond_t (t := decide (x121 ≤ 1)) rfl dc123 ?_
                              refine SW.region ?_
                              refine SOps.val (v := pv p100) rfl (wantN rfl) (fun _ => by kernel_rfl) ?_
                              obtain ⟨x124, x125, x126, x127, s128, l129, x130, c131, h⟩ := h
                              refine SOps.rd (v := .agg #[.int .i64 x124, .int .i64 x125, .int .i64 x126, .int .u8 x127, .string s128, swv l129, .int .i64 x130]) rfl (wantN rfl) (fun w hw => ev_loadN rfl (fun _ => by kernel_rfl) (size := 7) (by kernel_rfl) (p := (b118, 0)) rfl rfl c131 w hw) ?_
                              refine SOps.enter rfl (wantN rfl) (fun _ => by kernel_rfl) (ladinglaw14_Do.sound F p100 x124 x125 x126 x127 s128 l129 x130 (SH.setl (SH.upd H b118 ⟨[.int .i64 0, .int .i64 0, .int .i64 0, .int .u8 0, .string ByteArray.empty, sv Sl.nil, .int .i64 0], 41, false, 7⟩) (b118, 0) [.int .i64 x110, .int .i64 x111, .int .i64 x112, .int .u8 x113, .string s114, swv l115, .int .i64 x116]) _ h) ?_
                              clear h
                              rintro v H133 ⟨x132, rfl, h⟩
                              refine SOps.nil ?_
                              exact ⟨_, l97, l98, b99, p100, p101, l102, x103, x104, Fr.upds_self _ _ ⟨rfl, rfl, rfl, rfl, rfl, rfl, rfl, rfl, trivial⟩, h⟩
                            · replace h := h.2 c123
                              have dc123 : (decide (x121 ≤ 1)) = false := (decide_eq_false c123)
                              refine SW.cond_f (t := decide (x121 ≤ 1)) rfl dc123 ?_
                              refine SW.skip ?_
                              exact ⟨_, l97, l98, b99, p100, p101, l102, x103, x104, Fr.upds_self _ _ ⟨rfl, rfl, rfl, rfl, rfl, rfl, rfl, rfl, trivial⟩, h⟩
                      · replace h := h.2 c105
                        have dc105 : (decide (x104 < x103)) = false := (decide_eq_false c105)
                        refine SW.cond_f (t := decide (x104 < x103)) rfl dc105 ?_
                        refine SW.exit ?_
                        refine SW.seq ?_
                        refine SW.region ?_
                        refine SOps.enter rfl (wantN rfl) (fun _ => by kernel_rfl) (disk_New.sound F 4 H _ h) ?_
                        clear h
                        rintro v H153 ⟨p152, rfl, h⟩
                        refine SOps.val (v := pv p152) rfl (wantN rfl) (fun _ => by kernel_rfl) ?_
                        refine SOps.nil ?_
                        refine SW.seq ?_
                        refine SW.seq ?_
                        refine SW.region ?_
                        refine SOps.val (v := sv l97) rfl (wantN rfl) (fun _ => by kernel_rfl) ?_
                        refine SOps.val (v := .int .i64 (l97.len : Int)) rfl (wantN rfl) (fun _ => by kernel_rfl) ?_
                        refine SOps.val (v := .int .i64 0) rfl (wantN rfl) (fun _ => by kernel_rfl) ?_
                        refine SOps.nil ?_
                        refine SW.block ?_
                        refine SW.loop (fun k3 fr H => ∃ (g : Fr) (l154 : Sl) (b155 : Nat) (p156 : Option (Nat × Nat)) (p157 : Option (Nat × Nat)) (p158 : Option (Nat × Nat)) (l159 : Sl) (x160 : Int) (x161 : Int), fr = g.upds [(1, sv l154), (5, pv (some (b155, 0))), (7, pv p156), (8, pv p157), (13, pv p158), (82, sv l159), (83, (.int .i64 x160 : Value)), (84, (.int .i64 x161 : Value))] ∧ ladinglaw14_DiskLasts.l3 F K k3 l154 b155 p156 p157 p158 l159 x160 x161 H) F ⟨_, l98, b99, p100, p101, p152, l97, (l97.len : Int), 0, (Fr.upds_self _ _ ⟨rfl, rfl, rfl, rfl, rfl, rfl, rfl, rfl, trivial⟩), h⟩ ?_
                        clear h
                        rintro k3 fr H ⟨g, l154, b155, p156, p157, p158, l159, x160, x161, rfl, h⟩
                        cases k3 with
                        | zero => exact h.elim
                        | succ k3 =>
                          replace h : ladinglaw14_DiskLasts.r3 F K (ladinglaw14_DiskLasts.l3 F K k3) l154 b155 p156 p157 p158 l159 x160 x161 H := h
                          unfold ladinglaw14_DiskLasts.r3 at h
                          refine SW.seq ?_
                          refine SW.region ?_
                          refine SOps.val (v := .bool (decide (x161 < x160))) rfl (wantN rfl) (fun _ => by kernel_rfl) ?_
                          refine SOps.nil ?_
                          refine SW.seq ?_
                          by_cases c162 : x161 < x160
                          · replace h := h.1 c162
                            have dc162 : (decide (x161 < x160)) = true := (decide_eq_true c162)
                            refine SW.cond_t (t := decide (x161 < x160)) rfl dc162 ?_
                            refine SW.skip ?_
                            refine SW.seqJ (fun fr H => ∃ (g : Fr) (l199 : Sl) (b200 : Nat) (p201 : Option (Nat × Nat)) (p202 : Option (Nat × Nat)) (p203 : Option (Nat × Nat)) (l204 : Sl) (x205 : Int) (x206 : Int), fr = g.upds [(1, sv l199), (5, pv (some (b200, 0))), (7, pv p201), (8, pv p202), (13, pv p203), (82, sv l204), (83, (.int .i64 x205 : Value)), (84, (.int .i64 x206 : Value))] ∧ ladinglaw14_DiskLasts.j5 F K (ladinglaw14_DiskLasts.l3 F K k3) l199 b200 p201 p202 p203 l204 x205 x206 H) ?_ ?_
                            · clear h
                              rintro fr H ⟨g, l199, b200, p201, p202, p203, l204, x205, x206, rfl, h⟩
                              unfold ladinglaw14_DiskLasts.j5 at h
                              refine SW.region ?_
                              refine SOps.val (v := .int .i64 (w64 (x206 + 1))) rfl (wantN rfl) (fun _ => by kernel_rfl) ?_
                              refine SOps.val (v := .int .i64 (w64 (x206 + 1))) rfl (wantN rfl) (fun _ => by kernel_rfl) ?_
                              refine SOps.nil ?_
                              exact ⟨k3, Nat.lt_succ_self k3, _, l199, b200, p201, p202, p203, l204, x205, w64 (x206 + 1), (Fr.upds_self _ _ ⟨rfl, rfl, rfl, rfl, rfl, rfl, rfl, rfl, trivial⟩), h⟩
                            · skip
                              refine SW.blockJ (fun fr H => ∃ (g : Fr) (l191 : Sl) (b192 : Nat) (p193 : Option (Nat × Nat)) (p194 : Option (Nat × Nat)) (p195 : Option (Nat × Nat)) (l196 : Sl) (x197 : Int) (x198 : Int), fr = g.upds [(1, sv l191), (5, pv (some (b192, 0))), (7, pv p193), (8, pv p194), (13, pv p195), (82, sv l196), (83, (.int .i64 x197 : Value)), (84, (.int .i64 x198 : Value))] ∧ ladinglaw14_DiskLasts.j6 F K (ladinglaw14_DiskLasts.l3 F K k3) l191 b192 p193 p194 p195 l196 x197 x198 H) ?_ ?_
                              · clear h
                                rintro fr H ⟨g, l191, b192, p193, p194, p195, l196, x197, x198, rfl, h⟩
                                unfold ladinglaw14_DiskLasts.j6 at h
                                exact ⟨_, l191, b192, p193, p194, p195, l196, x197, x198, Fr.upds_self _ _ ⟨rfl, rfl, rfl, rfl, rfl, rfl, rfl, rfl, trivial⟩, h⟩
                              · skip
                                refine SW.seq ?_
                                refine SW.region ?_
                                obtain ⟨p163, c164, c165, c166, h⟩ := h
                                refine SOps.val (v := pv (some (p163.1, (p163.2 + x161.toNat * 7)))) rfl (wantN rfl) (fun w => ev_iaddr rfl Tryd.underlying38 (size := 7) (by kernel_rfl) rfl rfl c164 c165 c166 w) ?_
                                obtain ⟨x167, x168, x169, x170, s171, l172, x173, c174, h⟩ := h
                                refine SOps.rd (v := .agg #[.int .i64 x167, .int .i64 x168, .int .i64 x169, .int .u8 x170, .string s171, swv l172, .int .i64 x173]) rfl (wantN rfl) (fun w hw => ev_loadN rfl (fun _ => by kernel_rfl) (size := 7) (by kernel_rfl) (p := (p163.1, (p163.2 + x161.toNat * 7))) rfl rfl c174 w hw) ?_
                                refine SOps.alloc rfl rfl (wantN rfl) (z := .agg #[.int .i64 0, .int .i64 0, .int .i64 0, .int .u8 0, .string ByteArray.empty, sv Sl.nil, .int .i64 0]) (by kernel_rfl) (fun b175 c176 => ?_)
                                replace h := h b175 c176
                                obtain ⟨c177, h⟩ := h
                                refine SOps.storeL (p := (b175, 0)) (v := .agg #[.int .i64 x167, .int .i64 x168, .int .i64 x169, .int .u8 x170, .string s171, swv l172, .int .i64 x173]) (cs := [.int .i64 x167, .int .i64 x168, .int .i64 x169, .int .u8 x170, .string s171, swv l172, .int .i64 x173]) rfl rfl (wantN rfl) (size := 7) (by kernel_rfl) rfl rfl rfl rfl (by simp [Value.oneCell', errV_one, pv, sv, swv]) c177 ?_
                                refine SOps.nil ?_
                                refine SW.seq ?_
                                refine SW.region ?_
                                refine SOps.val (v := pv (some (b175, 0))) rfl (wantN rfl) (fun _ => by kernel_rfl) ?_
                                obtain ⟨x178, c179, h⟩ := h
                                refine SOps.rd (v := .int .i64 x178) rfl (wantN rfl) (fun w hw => ev_load1 rfl (fun _ => by kernel_rfl) (p := (b175, 0)) rfl c179 w hw) ?_
                                refine SOps.val (v := .bool (decide (x178 ≤ 1))) rfl (wantN rfl) (fun _ => by kernel_rfl) ?_
                                refine SOps.nil ?_
                                by_cases c180 : x178 ≤ 1
                                · replace h := h.1 c180
                                  have dc180 : (decide (x178 ≤ 1)) = true := (decide_eq_true c180)
                                  refine SW.cond_t (t := decide (x178 ≤ 1)) rfl dc180 ?_
                                  refine SW.region ?_
                                  refine SOps.val (v := pv p158) rfl (wantN rfl) (fun _ => by kernel_rfl) ?_
                                  obtain ⟨x181, x182, x183, x184, s185, l186, x187, c188, h⟩ := h
                                  refine SOps.rd (v := .agg #[.int .i64 x181, .int .i64 x182, .int .i64 x183, .int .u8 x184, .string s185, swv l186, .int .i64 x187]) rfl (wantN rfl) (fun w hw => ev_loadN rfl (fun _ => by kernel_rfl) (size := 7) (by kernel_rfl) (p := (b175, 0)) rfl rfl c188 w hw) ?_
                                  refine SOps.enter rfl (wantN rfl) (fun _ => by kernel_rfl) (ladinglaw14_Do.sound F p158 x181 x182 x183 x184 s185 l186 x187 (SH.setl (SH.upd H b175 ⟨[.int .i64 0, .int .i64 0, .int .i64 0, .int .u8 0, .string ByteArray.empty, sv Sl.nil, .int .i64 0], 41, false, 7⟩) (b175, 0) [.int .i64 x167, .int .i64 x168, .int .i64 x169, .int .u8 x170, .string s171, swv l172, .int .i64 x173]) _ h) ?_
                                  clear h
                                  rintro v H190 ⟨x189, rfl, h⟩
                                  refine SOps.nil ?_
                                  exact ⟨_, l154, b155, p156, p157, p158, l159, x160, x161, Fr.upds_self _ _ ⟨rfl, rfl, rfl, rfl, rfl, rfl, rfl, rfl, trivial⟩, h⟩
                                · replace h := h.2 c180
                                  have dc180 : (decide (x178 ≤ 1)) = false := (decide_eq_false c180)
                                  refine SW.cond_f (t := decide (x178 ≤ 1)) rfl dc180 ?_
                                  refine SW.skip ?_
                                  exact ⟨_, l154, b155, p156, p157, p158, l159, x160, x161, Fr.upds_self _ _ ⟨rfl, rfl, rfl, rfl, rfl, rfl, rfl, rfl, trivial⟩, h⟩
                          · replace h := h.2 c162
                            have dc162 : (decide (x161 < x160)) = false := (decide_eq_false c162)
                            refine SW.cond_f (t := decide (x161 < x160)) rfl dc162 ?_
                            refine SW.exit ?_
                            refine SW.seq ?_
                            refine SW.region ?_
                            refine SOps.val (v := pv p158) rfl (wantN rfl) (fun _ => by kernel_rfl) ?_
                            refine SOps.enter rfl (wantN rfl) (fun _ => by kernel_rfl) (disk_Disk_Sync.sound F p158 H _ h) ?_
                            clear h
                            rintro v H210 ⟨e209, rfl, h⟩
                            refine SOps.nil ?_
                            refine SW.seq ?_
                            refine SW.seq ?_
                            refine SW.region ?_
                            refine SOps.val (v := sv l154) rfl (wantN rfl) (fun _ => by kernel_rfl) ?_
                            refine SOps.val (v := .int .i64 (l154.len : Int)) rfl (wantN rfl) (fun _ => by kernel_rfl) ?_
                            refine SOps.val (v := .int .i64 0) rfl (wantN rfl) (fun _ => by kernel_rfl) ?_
                            refine SOps.nil ?_
                            refine SW.block ?_
                            refine SW.loop (fun k4 fr H => ∃ (g : Fr) (b211 : Nat) (p212 : Option (Nat × Nat)) (p213 : Option (Nat × Nat)) (p214 : Option (Nat × Nat)) (l215 : Sl) (x216 : Int) (x217 : Int), fr = g.upds [(5, pv (some (b211, 0))), (7, pv p212), (8, pv p213), (13, pv p214), (97, sv l215), (98, (.int .i64 x216 : Value)), (99, (.int .i64 x217 : Value))] ∧ ladinglaw14_DiskLasts.l4 F K k4 b211 p212 p213 p214 l215 x216 x217 H) F ⟨_, b155, p156, p157, p158, l154, (l154.len : Int), 0, (Fr.upds_self _ _ ⟨rfl, rfl, rfl, rfl, rfl, rfl, rfl, trivial⟩), h⟩ ?_
                            clear h
                            rintro k4 fr H ⟨g, b211, p212, p213, p214, l215, x216, x217, rfl, h⟩
                            cases k4 with
                            | zero => exact h.elim
                            | succ k4 =>
                              replace h : ladinglaw14_DiskLasts.r4 F K (ladinglaw14_DiskLasts.l4 F K k4) b211 p212 p213 p214 l215 x216 x217 H := h
                              unfold ladinglaw14_DiskLasts.r4 at h
                              refine SW.seq ?_
                              refine SW.region ?_
                              refine SOps.val (v := .bool (decide (x217 < x216))) rfl (wantN rfl) (fun _ => by kernel_rfl) ?_
                              refine SOps.nil ?_
                              refine SW.seq ?_
                              by_cases c218 : x217 < x216
                              · replace h := h.1 c218
                                have dc218 : (decide (x217 < x216)) = true := (decide_eq_true c218)
                                refine SW.cond_t (t := decide (x217 < x216)) rfl dc218 ?_
                                refine SW.skip ?_
                                refine SW.seqJ (fun fr H => ∃ (g : Fr) (b254 : Nat) (p255 : Option (Nat × Nat)) (p256 : Option (Nat × Nat)) (p257 : Option (Nat × Nat)) (l258 : Sl) (x259 : Int) (x260 : Int), fr = g.upds [(5, pv (some (b254, 0))), (7, pv p255), (8, pv p256), (13, pv p257), (97, sv l258), (98, (.int .i64 x259 : Value)), (99, (.int .i64 x260 : Value))] ∧ ladinglaw14_DiskLasts.j7 F K (ladinglaw14_DiskLasts.l4 F K k4) b254 p255 p256 p257 l258 x259 x260 H) ?_ ?_
                                · clear h
                                  rintro fr H ⟨g, b254, p255, p256, p257, l258, x259, x260, rfl, h⟩
                                  unfold ladinglaw14_DiskLasts.j7 at h
                                  refine SW.region ?_
                                  refine SOps.val (v := .int .i64 (w64 (x260 + 1))) rfl (wantN rfl) (fun _ => by kernel_rfl) ?_
                                  refine SOps.val (v := .int .i64 (w64 (x260 + 1))) rfl (wantN rfl) (fun _ => by kernel_rfl) ?_
                                  refine SOps.nil ?_
                                  exact ⟨k4, Nat.lt_succ_self k4, _, b254, p255, p256, p257, l258, x259, w64 (x260 + 1), (Fr.upds_self _ _ ⟨rfl, rfl, rfl, rfl, rfl, rfl, rfl, trivial⟩), h⟩
                                · skip
                                  refine SW.blockJ (fun fr H => ∃ (g : Fr) (b247 : Nat) (p248 : Option (Nat × Nat)) (p249 : Option (Nat × Nat)) (p250 : Option (Nat × Nat)) (l251 : Sl) (x252 : Int) (x253 : Int), fr = g.upds [(5, pv (some (b247, 0))), (7, pv p248), (8, pv p249), (13, pv p250), (97, sv l251), (98, (.int .i64 x252 : Value)), (99, (.int .i64 x253 : Value))] ∧ ladinglaw14_DiskLasts.j8 F K (ladinglaw14_DiskLasts.l4 F K k4) b247 p248 p249 p250 l251 x252 x253 H) ?_ ?_
                                  · clear h
                                    rintro fr H ⟨g, b247, p248, p249, p250, l251, x252, x253, rfl, h⟩
                                    unfold ladinglaw14_DiskLasts.j8 at h
                                    exact ⟨_, b247, p248, p249, p250, l251, x252, x253, Fr.upds_self _ _ ⟨rfl, rfl, rfl, rfl, rfl, rfl, rfl, trivial⟩, h⟩
                                  · skip
                                    refine SW.seq ?_
                                    refine SW.region ?_
                                    obtain ⟨p219, c220, c221, c222, h⟩ := h
                                    refine SOps.val (v := pv (some (p219.1, (p219.2 + x217.toNat * 7)))) rfl (wantN rfl) (fun w => ev_iaddr rfl Tryd.underlying38 (size := 7) (by kernel_rfl) rfl rfl c220 c221 c222 w) ?_
                                    obtain ⟨x223, x224, x225, x226, s227, l228, x229, c230, h⟩ := h
                                    refine SOps.rd (v := .agg #[.int .i64 x223, .int .i64 x224, .int .i64 x225, .int .u8 x226, .string s227, swv l228, .int .i64 x229]) rfl (wantN rfl) (fun w hw => ev_loadN rfl (fun _ => by kernel_rfl) (size := 7) (by kernel_rfl) (p := (p219.1, (p219.2 + x217.toNat * 7))) rfl rfl c230 w hw) ?_
                                    refine SOps.alloc rfl rfl (wantN rfl) (z := .agg #[.int .i64 0, .int .i64 0, .int .i64 0, .int .u8 0, .string ByteArray.empty, sv Sl.nil, .int .i64 0]) (by kernel_rfl) (fun b231 c232 => ?_)
                                    replace h := h b231 c232
                                    obtain ⟨c233, h⟩ := h
                                    refine SOps.storeL (p := (b231, 0)) (v := .agg #[.int .i64 x223, .int .i64 x224, .int .i64 x225, .int .u8 x226, .string s227, swv l228, .int .i64 x229]) (cs := [.int .i64 x223, .int .i64 x224, .int .i64 x225, .int .u8 x226, .string s227, swv l228, .int .i64 x229]) rfl rfl (wantN rfl) (size := 7) (by kernel_rfl) rfl rfl rfl rfl (by simp [Value.oneCell', errV_one, pv, sv, swv]) c233 ?_
                                    refine SOps.nil ?_
                                    refine SW.seq ?_
                                    refine SW.region ?_
                                    refine SOps.val (v := pv (some (b231, 0))) rfl (wantN rfl) (fun _ => by kernel_rfl) ?_
                                    obtain ⟨x234, c235, h⟩ := h
                                    refine SOps.rd (v := .int .i64 x234) rfl (wantN rfl) (fun w hw => ev_load1 rfl (fun _ => by kernel_rfl) (p := (b231, 0)) rfl c235 w hw) ?_
                                    refine SOps.val (v := .bool (decide (x234 ≤ 1))) rfl (wantN rfl) (fun _ => by kernel_rfl) ?_
                                    refine SOps.nil ?_
                                    by_cases c236 : x234 ≤ 1
                                    · replace h := h.1 c236
                                      have dc236 : (decide (x234 ≤ 1)) = true := (decide_eq_true c236)
                                      refine SW.cond_t (t := decide (x234 ≤ 1)) rfl dc236 ?_
                                      refine SW.region ?_
                                      refine SOps.val (v := pv p214) rfl (wantN rfl) (fun _ => by kernel_rfl) ?_
                                      obtain ⟨x237, x238, x239, x240, s241, l242, x243, c244, h⟩ := h
                                      refine SOps.rd (v := .agg #[.int .i64 x237, .int .i64 x238, .int .i64 x239, .int .u8 x240, .string s241, swv l242, .int .i64 x243]) rfl (wantN rfl) (fun w hw => ev_loadN rfl (fun _ => by kernel_rfl) (size := 7) (by kernel_rfl) (p := (b231, 0)) rfl rfl c244 w hw) ?_
                                      refine SOps.enter rfl (wantN rfl) (fun _ => by kernel_rfl) (ladinglaw14_Do.sound F p214 x237 x238 x239 x240 s241 l242 x243 (SH.setl (SH.upd H b231 ⟨[.int .i64 0, .int .i64 0, .int .i64 0, .int .u8 0, .string ByteArray.empty, sv Sl.nil, .int .i64 0], 41, false, 7⟩) (b231, 0) [.int .i64 x223, .int .i64 x224, .int .i64 x225, .int .u8 x226, .string s227, swv l228, .int .i64 x229]) _ h) ?_
                                      clear h
                                      rintro v H246 ⟨x245, rfl, h⟩
                                      refine SOps.nil ?_
                                      exact ⟨_, b211, p212, p213, p214, l215, x216, x217, Fr.upds_self _ _ ⟨rfl, rfl, rfl, rfl, rfl, rfl, rfl, trivial⟩, h⟩
                                    · replace h := h.2 c236
                                      have dc236 : (decide (x234 ≤ 1)) = false := (decide_eq_false c236)
                                      refine SW.cond_f (t := decide (x234 ≤ 1)) rfl dc236 ?_
                                      refine SW.skip ?_
                                      exact ⟨_, b211, p212, p213, p214, l215, x216, x217, Fr.upds_self _ _ ⟨rfl, rfl, rfl, rfl, rfl, rfl, rfl, trivial⟩, h⟩
                              · replace h := h.2 c218
                                have dc218 : (decide (x217 < x216)) = false := (decide_eq_false c218)
                                refine SW.cond_f (t := decide (x217 < x216)) rfl dc218 ?_
                                refine SW.exit ?_
                                refine SW.seq ?_
                                refine SW.region ?_
                                refine SOps.val (v := pv p214) rfl (wantN rfl) (fun _ => by kernel_rfl) ?_
                                refine SOps.val (v := .agg #[sv Sl.nil, .int .i64 0]) rfl (wantN rfl) (fun _ => by kernel_rfl) ?_
                                refine SOps.enter rfl (wantN rfl) (fun _ => by kernel_rfl) (disk_Disk_Crash.sound F p214 Sl.nil 0 H _ h) ?_
                                clear h
                                rintro v H263 ⟨rfl, h⟩
                                refine SOps.nil ?_
                                refine SW.seq ?_
                                refine SW.seq ?_
                                refine SW.region ?_
                                refine SOps.val (v := pv p214) rfl (wantN rfl) (fun _ => by kernel_rfl) ?_
                                refine SOps.val (v := pv p213) rfl (wantN rfl) (fun _ => by kernel_rfl) ?_
                                refine SOps.enter rfl (wantN rfl) (fun _ => by kernel_rfl) (disk_Disk_Same.sound F p214 p213 H263 _ h) ?_
                                clear h
                                rintro v H265 ⟨q264, rfl, h⟩
                                refine SOps.val (v := .bool (!q264)) rfl (wantN rfl) (fun _ => by kernel_rfl) ?_
                                refine SOps.nil ?_
                                by_cases c266 : q264 = true
                                · replace h := h.1 c266
                                  have dc266 : q264 = true := c266
                                  refine SW.cond_f (t := !q264) rfl (not_t dc266) ?_
                                  refine SW.skip ?_
                                  refine SW.seq ?_
                                  refine SW.region ?_
                                  refine SOps.val (v := pv p212) rfl (wantN rfl) (fun _ => by kernel_rfl) ?_
                                  obtain ⟨l267, x268, c269, h⟩ := h
                                  refine SOps.rd (v := .agg #[sv l267, .int .i64 x268]) rfl (wantN rfl) (fun w hw => ev_loadN rfl (fun _ => by kernel_rfl) (size := 2) (by kernel_rfl) (p := (b211, 0)) rfl rfl c269 w hw) ?_
                                  refine SOps.enter rfl (wantN rfl) (fun _ => by kernel_rfl) (disk_Disk_Crash.sound F p212 l267 x268 H265 _ h) ?_
                                  clear h
                                  rintro v H270 ⟨rfl, h⟩
                                  refine SOps.nil ?_
                                  refine SW.seq ?_
                                  refine SW.region ?_
                                  refine SOps.val (v := pv p212) rfl (wantN rfl) (fun _ => by kernel_rfl) ?_
                                  refine SOps.enter rfl (wantN rfl) (fun _ => by kernel_rfl) (disk_Disk_Log.sound F p212 H270 _ h) ?_
                                  clear h
                                  rintro v H273 ⟨s271, e272, rfl, h⟩
                                  refine SOps.val (v := .tuple #[.string s271, errV e272]) rfl (wantN rfl) (fun _ => by kernel_rfl) ?_
                                  refine SOps.val (v := .string s271) rfl (wantN rfl) (fun _ => by kernel_rfl) ?_
                                  refine SOps.val (v := errV e272) rfl (wantN rfl) (fun _ => by kernel_rfl) ?_
                                  refine SOps.val (v := .string s271) rfl (wantN rfl) (fun _ => by kernel_rfl) ?_
                                  refine SOps.val (v := errV e272) rfl (wantN rfl) (fun _ => by kernel_rfl) ?_
                                  refine SOps.nil ?_
                                  refine SW.seq ?_
                                  refine SW.region ?_
                                  refine SOps.val (v := pv p213) rfl (wantN rfl) (fun _ => by kernel_rfl) ?_
                                  refine SOps.enter rfl (wantN rfl) (fun _ => by kernel_rfl) (disk_Disk_Log.sound F p213 H273 _ h) ?_
                                  clear h
                                  rintro v H276 ⟨s274, e275, rfl, h⟩
                                  refine SOps.val (v := .tuple #[.string s274, errV e275]) rfl (wantN rfl) (fun _ => by kernel_rfl) ?_
                                  refine SOps.val (v := .string s274) rfl (wantN rfl) (fun _ => by kernel_rfl) ?_
                                  refine SOps.val (v := errV e275) rfl (wantN rfl) (fun _ => by kernel_rfl) ?_
                                  refine SOps.val (v := .string s274) rfl (wantN rfl) (fun _ => by kernel_rfl) ?_
                                  refine SOps.val (v := errV e275) rfl (wantN rfl) (fun _ => by kernel_rfl) ?_
                                  refine SOps.nil ?_
                                  refine SW.seq ?_
                                  refine SW.region ?_
                                  refine SOps.val (v := errV e272) rfl (wantN rfl) (fun _ => by kernel_rfl) ?_
                                  rcases e272 with _ | v277
                                  · replace h := h.1 rfl
                                    refine SOps.val (v := .bool true) rfl (wantN rfl) (fun w => ev_errEq (e := none) rfl Tryd.underlying28 rfl rfl w) ?_
                                    refine SOps.val (v := .bool true) rfl (wantN rfl) (fun _ => by kernel_rfl) ?_
                                    refine SOps.val (v := errV e275) rfl (wantY (c := true) rfl rfl rfl rfl) (fun _ => by kernel_rfl) ?_
                                    rcases e275 with _ | v278
                                    · replace h := h.1 rfl
                                      refine SOps.val (v := .bool true) rfl (wantY (c := true) rfl rfl rfl rfl) (fun w => ev_errEq (e := none) rfl Tryd.underlying28 rfl rfl w) ?_
                                      refine SOps.val (v := .bool true) rfl (wantN rfl) (fun w => ev_pickT (v := .bool true) rfl (t := true) rfl rfl rfl w) ?_
                                      refine SOps.val (v := .bool true) rfl (wantN rfl) (fun _ => by kernel_rfl) ?_
                                      refine SOps.val (v := .string s271) rfl (wantY (c := true) rfl rfl rfl rfl) (fun _ => by kernel_rfl) ?_
                                      refine SOps.val (v := .int .i64 (s271.size : Int)) rfl (wantY (c := true) rfl rfl rfl rfl) (fun _ => by kernel_rfl) ?_
                                      refine SOps.val (v := .string s274) rfl (wantY (c := true) rfl rfl rfl rfl) (fun _ => by kernel_rfl) ?_
                                      refine SOps.val (v := .int .i64 (s274.size : Int)) rfl (wantY (c := true) rfl rfl rfl rfl) (fun _ => by kernel_rfl) ?_
                                      refine SOps.val (v := .bool (decide ((s271.size : Int) ≥ (s274.size : Int)))) rfl (wantY (c := true) rfl rfl rfl rfl) (fun _ => by kernel_rfl) ?_
                                      refine SOps.val (v := .bool (decide ((s271.size : Int) ≥ (s274.size : Int)))) rfl (wantN rfl) (fun w => ev_pickT (v := .bool (decide ((s271.size : Int) ≥ (s274.size : Int)))) rfl (t := true) rfl rfl rfl w) ?_
                                      refine SOps.val (v := .bool (decide ((s271.size : Int) ≥ (s274.size : Int)))) rfl (wantN rfl) (fun _ => by kernel_rfl) ?_
                                      by_cases c279 : (s271.size : Int) ≥ (s274.size : Int)
                                      · replace h := h.1 c279
                                        have dc279 : (decide ((s271.size : Int) ≥ (s274.size : Int))) = true := (decide_eq_true c279)
                                        refine SOps.val (v := .string s271) rfl (wantY (c := decide ((s271.size : Int) ≥ (s274.size : Int))) rfl rfl rfl dc279) (fun _ => by kernel_rfl) ?_
                                        refine SOps.val (v := .string s274) rfl (wantY (c := decide ((s271.size : Int) ≥ (s274.size : Int))) rfl rfl rfl dc279) (fun _ => by kernel_rfl) ?_
                                        refine SOps.val (v := .int .i64 (s274.size : Int)) rfl (wantY (c := decide ((s271.size : Int) ≥ (s274.size : Int))) rfl rfl rfl dc279) (fun _ => by kernel_rfl) ?_
                                        obtain ⟨c280, c281, c282, h⟩ := h
                                        refine SOps.val (v := .string (s271.extract (0 : Int).toNat (s274.size : Int).toNat)) rfl (wantY (c := decide ((s271.size : Int) ≥ (s274.size : Int))) rfl rfl rfl dc279) (fun w => ev_subS (a := (0 : Int)) (b := (s274.size : Int)) rfl Tryd.underlying9 rfl (Or.inl ⟨rfl, rfl⟩) (Or.inr ⟨_, rfl⟩) c280 c281 c282 w) ?_
                                        refine SOps.val (v := .string s274) rfl (wantY (c := decide ((s271.size : Int) ≥ (s274.size : Int))) rfl rfl rfl dc279) (fun _ => by kernel_rfl) ?_
                                        refine SOps.val (v := .bool (decide ((s271.extract (0 : Int).toNat (s274.size : Int).toNat) = s274))) rfl (wantY (c := decide ((s271.size : Int) ≥ (s274.size : Int))) rfl rfl rfl dc279) (fun w => ev_eqS rfl rfl rfl w) ?_
                                        refine SOps.val (v := .bool (decide ((s271.extract (0 : Int).toNat (s274.size : Int).toNat) = s274))) rfl (wantN rfl) (fun w => ev_pickT (v := .bool (decide ((s271.extract (0 : Int).toNat (s274.size : Int).toNat) = s274))) rfl (t := decide ((s271.size : Int) ≥ (s274.size : Int))) rfl dc279 rfl w) ?_
                                        refine SOps.val (v := .bool (decide ((s271.extract (0 : Int).toNat (s274.size : Int).toNat) = s274))) rfl (wantN rfl) (fun _ => by kernel_rfl) ?_
                                        by_cases c283 : (s271.extract (0 : Int).toNat (s274.size : Int).toNat) = s274
                                        · replace h := h.1 c283
                                          have dc283 : (decide ((s271.extract (0 : Int).toNat (s274.size : Int).toNat) = s274)) = true := (decide_eq_true c283)
                                          refine SOps.val (v := pv p212) rfl (wantY (c := decide ((s271.extract (0 : Int).toNat (s274.size : Int).toNat) = s274)) rfl rfl rfl dc283) (fun _ => by kernel_rfl) ?_
                                          refine SOps.enter rfl (wantY (c := decide ((s271.extract (0 : Int).toNat (s274.size : Int).toNat) = s274)) rfl rfl rfl dc283) (fun _ => by kernel_rfl) (disk_Disk_Waits.sound F p212 H276 _ h) ?_
                                          clear h
                                          rintro v H285 ⟨x284, rfl, h⟩
                                          refine SOps.val (v := .bool (x284 == 0)) rfl (wantY (c := decide ((s271.extract (0 : Int).toNat (s274.size : Int).toNat) = s274)) rfl rfl rfl dc283) (fun _ => by kernel_rfl) ?_
                                          refine SOps.val (v := .bool (x284 == 0)) rfl (wantN rfl) (fun w => ev_pickT (v := .bool (x284 == 0)) rfl (t := decide ((s271.extract (0 : Int).toNat (s274.size : Int).toNat) = s274)) rfl dc283 rfl w) ?_
                                          refine SOps.val (v := .bool (x284 == 0)) rfl (wantN rfl) (fun _ => by kernel_rfl) ?_
                                          refine SOps.nil ?_
                                          obtain ⟨Hr, hr, h⟩ := h
                                          exact SW.ret (retQ.mk (.bool (x284 == 0)) (res1 rfl rfl) hr ⟨(x284 == 0), rfl, h⟩)
                                        · replace h := h.2 c283
                                          have dc283 : (decide ((s271.extract (0 : Int).toNat (s274.size : Int).toNat) = s274)) = false := (decide_eq_false c283)
                                          refine SOps.off rfl (wantX (c := decide ((s271.extract (0 : Int).toNat (s274.size : Int).toNat) = s274)) rfl rfl rfl dc283) ?_
                                          refine SOps.off rfl (wantX (c := decide ((s271.extract (0 : Int).toNat (s274.size : Int).toNat) = s274)) rfl rfl rfl dc283) ?_
                                          refine SOps.off rfl (wantX (c := decide ((s271.extract (0 : Int).toNat (s274.size : Int).toNat) = s274)) rfl rfl rfl dc283) ?_
                                          refine SOps.val (v := .bool false) rfl (wantN rfl) (fun w => ev_pickF (v := .bool false) rfl (t := decide ((s271.extract (0 : Int).toNat (s274.size : Int).toNat) = s274)) rfl dc283 rfl w) ?_
                                          refine SOps.val (v := .bool false) rfl (wantN rfl) (fun _ => by kernel_rfl) ?_
                                          refine SOps.nil ?_
                                          obtain ⟨Hr, hr, h⟩ := h
                                          exact SW.ret (retQ.mk (.bool false) (res1 rfl rfl) hr ⟨false, rfl, h⟩)
                                      · replace h := h.2 c279
                                        have dc279 : (decide ((s271.size : Int) ≥ (s274.size : Int))) = false := (decide_eq_false c279)
                                        refine SOps.off rfl (wantX (c := decide ((s271.size : Int) ≥ (s274.size : Int))) rfl rfl rfl dc279) ?_
                                        refine SOps.off rfl (wantX (c := decide ((s271.size : Int) ≥ (s274.size : Int))) rfl rfl rfl dc279) ?_
                                        refine SOps.off rfl (wantX (c := decide ((s271.size : Int) ≥ (s274.size : Int))) rfl rfl rfl dc279) ?_
                                        refine SOps.off rfl (wantX (c := decide ((s271.size : Int) ≥ (s274.size : Int))) rfl rfl rfl dc279) ?_
                                        refine SOps.off rfl (wantX (c := decide ((s271.size : Int) ≥ (s274.size : Int))) rfl rfl rfl dc279) ?_
                                        refine SOps.off rfl (wantX (c := decide ((s271.size : Int) ≥ (s274.size : Int))) rfl rfl rfl dc279) ?_
                                        refine SOps.val (v := .bool false) rfl (wantN rfl) (fun w => ev_pickF (v := .bool false) rfl (t := decide ((s271.size : Int) ≥ (s274.size : Int))) rfl dc279 rfl w) ?_
                                        refine SOps.val (v := .bool false) rfl (wantN rfl) (fun _ => by kernel_rfl) ?_
                                        refine SOps.off rfl (wantX (c := false) rfl rfl rfl rfl) ?_
                                        refine SOps.off rfl (wantX (c := false) rfl rfl rfl rfl) ?_
                                        refine SOps.off rfl (wantX (c := false) rfl rfl rfl rfl) ?_
                                        refine SOps.val (v := .bool false) rfl (wantN rfl) (fun w => ev_pickF (v := .bool false) rfl (t := false) rfl rfl rfl w) ?_
                                        refine SOps.val (v := .bool false) rfl (wantN rfl) (fun _ => by kernel_rfl) ?_
                                        refine SOps.nil ?_
                                        obtain ⟨Hr, hr, h⟩ := h
                                        exact SW.ret (retQ.mk (.bool false) (res1 rfl rfl) hr ⟨false, rfl, h⟩)
                                    · replace h := h.2 v278 rfl
                                      refine SOps.val (v := .bool false) rfl (wantY (c := true) rfl rfl rfl rfl) (fun w => ev_errEq (e := some v278) rfl Tryd.underlying28 rfl rfl w) ?_
                                      refine SOps.val (v := .bool false) rfl (wantN rfl) (fun w => ev_pickT (v := .bool false) rfl (t := true) rfl rfl rfl w) ?_
                                      refine SOps.val (v := .bool false) rfl (wantN rfl) (fun _ => by kernel_rfl) ?_
                                      refine SOps.off rfl (wantX (c := false) rfl rfl rfl rfl) ?_
                                      refine SOps.off rfl (wantX (c := false) rfl rfl rfl rfl) ?_
                                      refine SOps.off rfl (wantX (c := false) rfl rfl rfl rfl) ?_
                                      refine SOps.off rfl (wantX (c := false) rfl rfl rfl rfl) ?_
                                      refine SOps.off rfl (wantX (c := false) rfl rfl rfl rfl) ?_
                                      refine SOps.val (v := .bool false) rfl (wantN rfl) (fun w => ev_pickF (v := .bool false) rfl (t := false) rfl rfl rfl w) ?_
                                      refine SOps.val (v := .bool false) rfl (wantN rfl) (fun _ => by kernel_rfl) ?_
                                      refine SOps.off rfl (wantX (c := false) rfl rfl rfl rfl) ?_
                                      refine SOps.off rfl (wantX (c := false) rfl rfl rfl rfl) ?_
                                      refine SOps.off rfl (wantX (c := false) rfl rfl rfl rfl) ?_
                                      refine SOps.off rfl (wantX (c := false) rfl rfl rfl rfl) ?_
                                      refine SOps.off rfl (wantX (c := false) rfl rfl rfl rfl) ?_
                                      refine SOps.off rfl (wantX (c := false) rfl rfl rfl rfl) ?_
                                      refine SOps.val (v := .bool false) rfl (wantN rfl) (fun w => ev_pickF (v := .bool false) rfl (t := false) rfl rfl rfl w) ?_
                                      refine SOps.val (v := .bool false) rfl (wantN rfl) (fun _ => by kernel_rfl) ?_
                                      refine SOps.off rfl (wantX (c := false) rfl rfl rfl rfl) ?_
                                      refine SOps.off rfl (wantX (c := false) rfl rfl rfl rfl) ?_
                                      refine SOps.off rfl (wantX (c := false) rfl rfl rfl rfl) ?_
                                      refine SOps.val (v := .bool false) rfl (wantN rfl) (fun w => ev_pickF (v := .bool false) rfl (t := false) rfl rfl rfl w) ?_
                                      refine SOps.val (v := .bool false) rfl (wantN rfl) (fun _ => by kernel_rfl) ?_
                                      refine SOps.nil ?_
                                      obtain ⟨Hr, hr, h⟩ := h
                                      exact SW.ret (retQ.mk (.bool false) (res1 rfl rfl) hr ⟨false, rfl, h⟩)
                                  · replace h := h.2 v277 rfl
                                    refine SOps.val (v := .bool false) rfl (wantN rfl) (fun w => ev_errEq (e := some v277) rfl Tryd.underlying28 rfl rfl w) ?_
                                    refine SOps.val (v := .bool false) rfl (wantN rfl) (fun _ => by kernel_rfl) ?_
                                    refine SOps.off rfl (wantX (c := false) rfl rfl rfl rfl) ?_
                                    refine SOps.off rfl (wantX (c := false) rfl rfl rfl rfl) ?_
                                    refine SOps.val (v := .bool false) rfl (wantN rfl) (fun w => ev_pickF (v := .bool false) rfl (t := false) rfl rfl rfl w) ?_
                                    refine SOps.val (v := .bool false) rfl (wantN rfl) (fun _ => by kernel_rfl) ?_
                                    refine SOps.off rfl (wantX (c := false) rfl rfl rfl rfl) ?_
                                    refine SOps.off rfl (wantX (c := false) rfl rfl rfl rfl) ?_
                                    refine SOps.off rfl (wantX (c := false) rfl rfl rfl rfl) ?_
                                    refine SOps.off rfl (wantX (c := false) rfl rfl rfl rfl) ?_
                                    refine SOps.off rfl (wantX (c := false) rfl rfl rfl rfl) ?_
                                    refine SOps.val (v := .bool false) rfl (wantN rfl) (fun w => ev_pickF (v := .bool false) rfl (t := false) rfl rfl rfl w) ?_
                                    refine SOps.val (v := .bool false) rfl (wantN rfl) (fun _ => by kernel_rfl) ?_
                                    refine SOps.off rfl (wantX (c := false) rfl rfl rfl rfl) ?_
                                    refine SOps.off rfl (wantX (c := false) rfl rfl rfl rfl) ?_
                                    refine SOps.off rfl (wantX (c := false) rfl rfl rfl rfl) ?_
                                    refine SOps.off rfl (wantX (c := false) rfl rfl rfl rfl) ?_
                                    refine SOps.off rfl (wantX (c := false) rfl rfl rfl rfl) ?_
                                    refine SOps.off rfl (wantX (c := false) rfl rfl rfl rfl) ?_
                                    refine SOps.val (v := .bool false) rfl (wantN rfl) (fun w => ev_pickF (v := .bool false) rfl (t := false) rfl rfl rfl w) ?_
                                    refine SOps.val (v := .bool false) rfl (wantN rfl) (fun _ => by kernel_rfl) ?_
                                    refine SOps.off rfl (wantX (c := false) rfl rfl rfl rfl) ?_
                                    refine SOps.off rfl (wantX (c := false) rfl rfl rfl rfl) ?_
                                    refine SOps.off rfl (wantX (c := false) rfl rfl rfl rfl) ?_
                                    refine SOps.val (v := .bool false) rfl (wantN rfl) (fun w => ev_pickF (v := .bool false) rfl (t := false) rfl rfl rfl w) ?_
                                    refine SOps.val (v := .bool false) rfl (wantN rfl) (fun _ => by kernel_rfl) ?_
                                    refine SOps.nil ?_
                                    obtain ⟨Hr, hr, h⟩ := h
                                    exact SW.ret (retQ.mk (.bool false) (res1 rfl rfl) hr ⟨false, rfl, h⟩)
                                · replace h := h.2 c266
                                  have dc266 : q264 = false := (Bool.eq_false_iff.mpr c266)
                                  refine SW.cond_t (t := !q264) rfl (not_f dc266) ?_
                                  refine SW.seq ?_
                                  refine SW.region ?_
                                  refine SOps.val (v := .bool false) rfl (wantN rfl) (fun _ => by kernel_rfl) ?_
                                  refine SOps.nil ?_
                                  obtain ⟨Hr, hr, h⟩ := h
                                  exact SW.ret (retQ.mk (.bool false) (res1 rfl rfl) hr ⟨false, rfl, h⟩)
                  · replace h := h.2 c96
                    have dc96 : q94 = false := (Bool.eq_false_iff.mpr c96)
                    refine SW.cond_t (t := !q94) rfl (not_f dc96) ?_
                    refine SW.seq ?_
                    refine SW.region ?_
                    refine SOps.val (v := .bool false) rfl (wantN rfl) (fun _ => by kernel_rfl) ?_
                    refine SOps.nil ?_
                    obtain ⟨Hr, hr, h⟩ := h
                    exact SW.ret (retQ.mk (.bool false) (res1 rfl rfl) hr ⟨false, rfl, h⟩)
                · replace h := h.2 v93 rfl
                  refine SOps.val (v := .bool true) rfl (wantY (c := false) rfl rfl rfl rfl) (fun w => ev_errNe (e := some v93) rfl Tryd.underlying28 rfl rfl w) ?_
                  refine SOps.val (v := .bool true) rfl (wantN rfl) (fun w => ev_pickF (v := .bool true) rfl (t := false) rfl rfl rfl w) ?_
                  refine SOps.val (v := .bool true) rfl (wantN rfl) (fun _ => by kernel_rfl) ?_
                  refine SOps.off rfl (wantX (c := true) rfl rfl rfl rfl) ?_
                  refine SOps.off rfl (wantX (c := true) rfl rfl rfl rfl) ?_
                  refine SOps.off rfl (wantX (c := true) rfl rfl rfl rfl) ?_
                  refine SOps.off rfl (wantX (c := true) rfl rfl rfl rfl) ?_
                  refine SOps.val (v := .bool true) rfl (wantN rfl) (fun w => ev_pickT (v := .bool true) rfl (t := true) rfl rfl rfl w) ?_
                  refine SOps.nil ?_
                  refine SW.cond_t (t := true) rfl rfl ?_
                  refine SW.seq ?_
                  refine SW.region ?_
                  refine SOps.val (v := .bool false) rfl (wantN rfl) (fun _ => by kernel_rfl) ?_
                  refine SOps.nil ?_
                  obtain ⟨Hr, hr, h⟩ := h
                  exact SW.ret (retQ.mk (.bool false) (res1 rfl rfl) hr ⟨false, rfl, h⟩)
              · replace h := h.2 v90 rfl
                refine SOps.val (v := .bool true) rfl (wantN rfl) (fun w => ev_errNe (e := some v90) rfl Tryd.underlying28 rfl rfl w) ?_
                refine SOps.val (v := .bool true) rfl (wantN rfl) (fun _ => by kernel_rfl) ?_
                refine SOps.off rfl (wantX (c := true) rfl rfl rfl rfl) ?_
                refine SOps.off rfl (wantX (c := true) rfl rfl rfl rfl) ?_
                refine SOps.off rfl (wantX (c := true) rfl rfl rfl rfl) ?_
                refine SOps.val (v := .bool true) rfl (wantN rfl) (fun w => ev_pickT (v := .bool true) rfl (t := true) rfl rfl rfl w) ?_
                refine SOps.val (v := .bool true) rfl (wantN rfl) (fun _ => by kernel_rfl) ?_
                refine SOps.off rfl (wantX (c := true) rfl rfl rfl rfl) ?_
                refine SOps.off rfl (wantX (c := true) rfl rfl rfl rfl) ?_
                refine SOps.off rfl (wantX (c := true) rfl rfl rfl rfl) ?_
                refine SOps.off rfl (wantX (c := true) rfl rfl rfl rfl) ?_
                refine SOps.val (v := .bool true) rfl (wantN rfl) (fun w => ev_pickT (v := .bool true) rfl (t := true) rfl rfl rfl w) ?_
                refine SOps.nil ?_
                refine SW.cond_t (t := true) rfl rfl ?_
                refine SW.seq ?_
                refine SW.region ?_
                refine SOps.val (v := .bool false) rfl (wantN rfl) (fun _ => by kernel_rfl) ?_
                refine SOps.nil ?_
                obtain ⟨Hr, hr, h⟩ := h
                exact SW.ret (retQ.mk (.bool false) (res1 rfl rfl) hr ⟨false, rfl, h⟩)
  · replace h := h.2 c9
    have dc9 : q7 = false := (Bool.eq_false_iff.mpr c9)
    refine SW.cond_t (t := !q7) rfl (not_f dc9) ?_
    refine SW.seq ?_
    refine SW.region ?_
    refine SOps.val (v := .bool false) rfl (wantN rfl) (fun _ => by kernel_rfl) ?_
    refine SOps.nil ?_
    obtain ⟨Hr, hr, h⟩ := h
    exact SW.ret (retQ.mk (.bool false) (res1 rfl rfl) hr ⟨false, rfl, h⟩)

end Go.Proofs.YtknhlipealekoaaDoor.K
