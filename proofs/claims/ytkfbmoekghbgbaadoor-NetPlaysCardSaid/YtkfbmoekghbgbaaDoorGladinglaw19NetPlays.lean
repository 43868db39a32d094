import Derived.Test.YtkfbmoekghbgbaaDoorGnet2
import Derived.Test.YtkfbmoekghbgbaaDoorApi2
import Derived.Test.YtkfbmoekghbgbaaDoorSatApp3
set_option linter.unusedVariables false
set_option linter.unusedSimpArgs false
set_option maxRecDepth 100000
namespace Go.Proofs.YtkfbmoekghbgbaaDoor.K
open Go
local macro "slimval" v:term:max : tactic => `(tactic| refine SOps.val (v := $v) rfl (wantN rfl) (fun _ => by kernel_rfl) ?_)
attribute [local irreducible] SW SOps SQ SCalls retQ

/-! ### lading/ladinglaw19.NetPlays: function 3 -/
def ladinglaw19_NetPlays.r3 (F : Nat) (K : Bool → SH → Prop) (R1 : Option (Nat × Nat) → Sl → Sl → Int → Int → SH → Prop) (R3 : Option (Nat × Nat) → Sl → Sl → Int → Int → Sl → Int → Int → SH → Prop) (p527 : Option (Nat × Nat)) (l528 : Sl) (l529 : Sl) (x530 : Int) (x531 : Int) (l532 : Sl) (x533 : Int) (x534 : Int) (H : SH) : Prop :=
 (x534 < x533 →
  ∃ p536, l532.a = some p536 ∧ 0 ≤ x534 ∧ x534 < (l532.len : Int) ∧
  ∃ (x540 : Int) (x541 : Int) (s542 : ByteArray),
  SH.row H (some (p536.1, (p536.2 + x534.toNat * 3))) [.int .i64 x540, .int .i64 x541, .string s542] ∧
  ∀ b544, H b544 = none →
  SH.wrs (SH.upd H b544 ⟨[.int .i64 0, .int .i64 0, .string ByteArray.empty], 34, false, 3⟩) (b544, 0) 3 ∧
  ∃ (x547 : Int) (x548 : Int) (s549 : ByteArray),
  SH.row (SH.setl (SH.upd H b544 ⟨[.int .i64 0, .int .i64 0, .string ByteArray.empty], 34, false, 3⟩) (b544, 0) [.int .i64 x540, .int .i64 x541, .string s542]) (some (b544, 0)) [.int .i64 x547, .int .i64 x548, .string s549] ∧
  ∃ p551, l528.a = some p551 ∧ 0 ≤ x534 ∧ x534 < (l528.len : Int) ∧
  ∃ (x555 : Int) (x556 : Int) (s557 : ByteArray),
  SH.row (SH.setl (SH.upd H b544 ⟨[.int .i64 0, .int .i64 0, .string ByteArray.empty], 34, false, 3⟩) (b544, 0) [.int .i64 x540, .int .i64 x541, .string s542]) (some (p551.1, (p551.2 + x534.toNat * 4))) [.int .i64 x555, .int .i64 x556, .string s557] ∧
  ((x547 = x555 ∧ x548 = x556 ∧ s549 = s557) →
   R3 p527 l528 l529 x530 x531 l532 x533 (w64 (x534 + 1)) (SH.setl (SH.upd H b544 ⟨[.int .i64 0, .int .i64 0, .string ByteArray.empty], 34, false, 3⟩) (b544, 0) [.int .i64 x540, .int .i64 x541, .string s542])
  ) ∧ (¬ ((x547 = x555 ∧ x548 = x556 ∧ s549 = s557)) →
   ∃ Hr, SH.le Hr (SH.setl (SH.upd H b544 ⟨[.int .i64 0, .int .i64 0, .string ByteArray.empty], 34, false, 3⟩) (b544, 0) [.int .i64 x540, .int .i64 x541, .string s542]) ∧ K false Hr
  )
 ) ∧ (¬ (x534 < x533) →
  R1 p527 l528 l529 x530 (w64 (x531 + 1)) H
 )
def ladinglaw19_NetPlays.l3 (F : Nat) (K : Bool → SH → Prop) (R1 : Option (Nat × Nat) → Sl → Sl → Int → Int → SH → Prop) : Nat → Option (Nat × Nat) → Sl → Sl → Int → Int → Sl → Int → Int → SH → Prop
 | 0, _, _, _, _, _, _, _, _, _ => False
 | k + 1, p527, l528, l529, x530, x531, l532, x533, x534, H => ladinglaw19_NetPlays.r3 F K R1 (ladinglaw19_NetPlays.l3 F K R1 k) p527 l528 l529 x530 x531 l532 x533 x534 H
def ladinglaw19_NetPlays.j2 (F : Nat) (K : Bool → SH → Prop) (R1 : Option (Nat × Nat) → Sl → Sl → Int → Int → SH → Prop) (p515 : Option (Nat × Nat)) (l516 : Sl) (l517 : Sl) (x518 : Int) (x519 : Int) (H : SH) : Prop :=
 net_Net_All.wp F p515 H (fun l521 H522 =>
  net_Net_Len.wp F p515 H522 (fun x523 H524 =>
   (x523 ≠ (l516.len : Int) →
    ∃ Hr, SH.le Hr H524 ∧ K false Hr
   ) ∧ (¬ (x523 ≠ (l516.len : Int)) →
    ((l521.len : Int) ≠ (l516.len : Int) →
     ∃ Hr, SH.le Hr H524 ∧ K false Hr
    ) ∧ (¬ ((l521.len : Int) ≠ (l516.len : Int)) →
     ladinglaw19_NetPlays.l3 F K R1 F p515 l516 l517 x518 x519 l521 (l521.len : Int) 0 H524
    )
   )
  )
 )
def ladinglaw19_NetPlays.j3 (F : Nat) (K : Bool → SH → Prop) (R1 : Option (Nat × Nat) → Sl → Sl → Int → Int → SH → Prop) (p92 : Option (Nat × Nat)) (l93 : Sl) (l94 : Sl) (x95 : Int) (x96 : Int) (H : SH) : Prop :=
 ladinglaw19_NetPlays.j2 F K R1 p92 l93 l94 x95 x96 H
def ladinglaw19_NetPlays.j4 (F : Nat) (K : Bool → SH → Prop) (R1 : Option (Nat × Nat) → Sl → Sl → Int → Int → SH → Prop) (p50 : Option (Nat × Nat)) (l51 : Sl) (b52 : Nat) (x53 : Int) (l54 : Sl) (x55 : Int) (x56 : Int) (H : SH) : Prop :=
 ∃ (x71 : Int),
 SH.has H (b52, 1) (.int .i64 x71) ∧
 ∃ (x73 : Int),
 SH.has H (b52, 2) (.int .i64 x73) ∧
 ∃ (s75 : ByteArray),
 SH.has H (b52, 4) (.string s75) ∧
 net_Net_Send.wp F p50 x71 x73 s75 H (fun e77 H78 =>
  api_Code.wp F e77 H78 (fun x79 H80 =>
   (x79 ≠ x53 →
    ∃ Hr, SH.le Hr H80 ∧ K false Hr
   ) ∧ (¬ (x79 ≠ x53) →
    (x53 = 0 →
     ∃ (x83 : Int),
     SH.has H80 (b52, 1) (.int .i64 x83) ∧
     ∃ (x85 : Int),
     SH.has H80 (b52, 2) (.int .i64 x85) ∧
     ∃ (s87 : ByteArray),
     SH.has H80 (b52, 4) (.string s87) ∧
     AppendQ H80 36 4 40 l51 1 [.int .i64 x83, .int .i64 x85, .string s87, .bool false] (fun l89 H90 =>
      ladinglaw19_NetPlays.j3 F K R1 p50 l89 l54 x55 x56 H90
     )
    ) ∧ (¬ (x53 = 0) →
     ladinglaw19_NetPlays.j3 F K R1 p50 l51 l54 x55 x56 H80
    )
   )
  )
 )
def ladinglaw19_NetPlays.j7 (F : Nat) (K : Bool → SH → Prop) (R1 : Option (Nat × Nat) → Sl → Sl → Int → Int → SH → Prop) (p160 : Option (Nat × Nat)) (l161 : Sl) (b162 : Nat) (q163 : Bool) (l164 : Sl) (x165 : Int) (x166 : Int) (H : SH) : Prop :=
 (q163 = true →
  ∃ (x173 : Int),
  SH.has H (b162, 0) (.int .i64 x173) ∧
  (x173 = 1 →
   ∃ H176, SH.le H176 H ∧
   ∃ (x186 : Int),
   SH.has H (b162, 1) (.int .i64 x186) ∧
   0 ≤ (0 : Int) ∧
   (0 : Int) ≤ x186 ∧
   x186 ≤ (l161.cap : Int) ∧
   ∃ (x191 : Int),
   SH.has H176 (b162, 1) (.int .i64 x191) ∧
   0 ≤ (w64 (x191 + 1)) ∧
   (w64 (x191 + 1)) ≤ (l161.len : Int) ∧
   (l161.len : Int) ≤ (l161.cap : Int) ∧
   ∃ w203, SH.row H (Sl.sub 4 l161 (0 : Int).toNat x186.toNat l161.cap).a w203 ∧
   (∀ b184, H b184 = none → AppendQ (SH.upd H b184 (⟨[], 36, false, 0⟩ : AO)) 36 4 40 (⟨some (b184, 0), 0, 0⟩ : Sl) (Sl.sub 4 l161 (0 : Int).toNat x186.toNat l161.cap).len w203 (fun l196 H197 => SH.le H176 H197 ∧
    ∃ w201, SH.row H197 (Sl.sub 4 l161 (w64 (x191 + 1)).toNat (l161.len : Int).toNat l161.cap).a w201 ∧
    AppendQ H197 36 4 40 l196 (Sl.sub 4 l161 (w64 (x191 + 1)).toNat (l161.len : Int).toNat l161.cap).len w201 (fun l199 H200 =>
     ladinglaw19_NetPlays.j3 F K R1 p160 l199 l164 x165 x166 H200
    )
   ))
  ) ∧ (¬ (x173 = 1) →
   ladinglaw19_NetPlays.j3 F K R1 p160 l161 l164 x165 x166 H
  )
 ) ∧ (¬ (q163 = true) →
  ladinglaw19_NetPlays.j3 F K R1 p160 l161 l164 x165 x166 H
 )
def ladinglaw19_NetPlays.j6 (F : Nat) (K : Bool → SH → Prop) (R1 : Option (Nat × Nat) → Sl → Sl → Int → Int → SH → Prop) (p123 : Option (Nat × Nat)) (l124 : Sl) (b125 : Nat) (q126 : Bool) (x127 : Int) (b128 : Nat) (e129 : Option EV) (l130 : Sl) (x131 : Int) (x132 : Int) (H : SH) : Prop :=
 ∃ (x141 : Int),
 api_Code.wp F e129 H (fun x141' H' => x141' = x141 ∧ H' = H) ∧
 (x141 ≠ x127 →
  ∃ Hr, SH.le Hr H ∧ K false Hr
 ) ∧ (¬ (x141 ≠ x127) →
  (q126 = true →
   ∃ (x145 : Int) (x146 : Int) (s147 : ByteArray),
   SH.row H (some (b128, 0)) [.int .i64 x145, .int .i64 x146, .string s147] ∧
   ∃ (x149 : Int),
   SH.has H (b125, 1) (.int .i64 x149) ∧
   ∃ p151, l124.a = some p151 ∧ 0 ≤ x149 ∧ x149 < (l124.len : Int) ∧
   ∃ (x155 : Int) (x156 : Int) (s157 : ByteArray),
   SH.row H (some (p151.1, (p151.2 + x149.toNat * 4))) [.int .i64 x155, .int .i64 x156, .string s157] ∧
   ((x145 = x155 ∧ x146 = x156 ∧ s147 = s157) →
    ladinglaw19_NetPlays.j7 F K R1 p123 l124 b125 q126 l130 x131 x132 H
   ) ∧ (¬ ((x145 = x155 ∧ x146 = x156 ∧ s147 = s157)) →
    ∃ Hr, SH.le Hr H ∧ K false Hr
   )
  ) ∧ (¬ (q126 = true) →
   ∃ (x167 : Int) (x168 : Int) (s169 : ByteArray),
   SH.row H (some (b128, 0)) [.int .i64 x167, .int .i64 x168, .string s169] ∧
   ((x167 = 0 ∧ x168 = 0 ∧ s169 = ByteArray.empty) →
    ladinglaw19_NetPlays.j7 F K R1 p123 l124 b125 q126 l130 x131 x132 H
   ) ∧ (¬ ((x167 = 0 ∧ x168 = 0 ∧ s169 = ByteArray.empty)) →
    ∃ Hr, SH.le Hr H ∧ K false Hr
   )
  )
 )
def ladinglaw19_NetPlays.j8 (F : Nat) (K : Bool → SH → Prop) (R1 : Option (Nat × Nat) → Sl → Sl → Int → Int → SH → Prop) (p362 : Option (Nat × Nat)) (l363 : Sl) (b364 : Nat) (x365 : Int) (l366 : Sl) (x367 : Int) (x368 : Int) (H : SH) : Prop :=
 ∃ (x370 : Int),
 SH.has H (b364, 1) (.int .i64 x370) ∧
 ∃ (x372 : Int),
 SH.has H (b364, 2) (.int .i64 x372) ∧
 ∃ (x374 : Int),
 SH.has H (b364, 3) (.int .u8 x374) ∧
 net_Net_Spoil.wp F p362 x370 x372 x374 H (fun e376 H377 =>
  api_Code.wp F e376 H377 (fun x378 H379 =>
   (x378 ≠ x365 →
    ∃ Hr, SH.le Hr H379 ∧ K false Hr
   ) ∧ (¬ (x378 ≠ x365) →
    (x365 = 0 →
     ∃ (x382 : Int),
     SH.has H379 (b364, 1) (.int .i64 x382) ∧
     ∃ p384, l363.a = some p384 ∧ 0 ≤ x382 ∧ x382 < (l363.len : Int) ∧
     ∃ (s388 : ByteArray),
     SH.has H379 (p384.1, ((p384.2 + x382.toNat * 4) + 2)) (.string s388) ∧
     ∀ b390 n391, H379 b390 = none → s388.size ≤ n391 →
     ∃ (x394 : Int),
     SH.has (SH.upd H379 b390 ⟨byteCells s388.data.toList, 5, false, n391⟩) (b364, 2) (.int .i64 x394) ∧
     ∃ p396, (⟨some (b390, 0), s388.size, n391⟩ : Sl).a = some p396 ∧ 0 ≤ x394 ∧ x394 < ((⟨some (b390, 0), s388.size, n391⟩ : Sl).len : Int) ∧
     ∃ (x400 : Int),
     SH.has (SH.upd H379 b390 ⟨byteCells s388.data.toList, 5, false, n391⟩) (p396.1, (p396.2 + x394.toNat * 1)) (.int .u8 x400) ∧
     ∃ (x402 : Int),
     SH.has (SH.upd H379 b390 ⟨byteCells s388.data.toList, 5, false, n391⟩) (b364, 3) (.int .u8 x402) ∧
     ∃ p404, (⟨some (b390, 0), s388.size, n391⟩ : Sl).a = some p404 ∧ 0 ≤ x394 ∧ x394 < ((⟨some (b390, 0), s388.size, n391⟩ : Sl).len : Int) ∧
     SH.wrs (SH.upd H379 b390 ⟨byteCells s388.data.toList, 5, false, n391⟩) (p404.1, (p404.2 + x394.toNat * 1)) 1 ∧
     ∀ b410, (SH.setl (SH.upd H379 b390 ⟨byteCells s388.data.toList, 5, false, n391⟩) (p404.1, (p404.2 + x394.toNat * 1)) [.int .u8 (ibits .xor .u8 x400 x402)]) b410 = none →
     ∃ w440, SH.row (SH.upd (SH.setl (SH.upd H379 b390 ⟨byteCells s388.data.toList, 5, false, n391⟩) (p404.1, (p404.2 + x394.toNat * 1)) [.int .u8 (ibits .xor .u8 x400 x402)]) b410 ⟨[], 36, false, 0⟩) l363.a w440 ∧
     AppendQ (SH.upd (SH.setl (SH.upd H379 b390 ⟨byteCells s388.data.toList, 5, false, n391⟩) (p404.1, (p404.2 + x394.toNat * 1)) [.int .u8 (ibits .xor .u8 x400 x402)]) b410 ⟨[], 36, false, 0⟩) 36 4 40 (⟨some (b410, 0), 0, 0⟩ : Sl) l363.len w440 (fun l412 H413 =>
      ∃ H414, SH.le H414 H413 ∧
      ∃ (x422 : Int),
      SH.has H413 (b364, 1) (.int .i64 x422) ∧
      ∃ (x424 : Int),
      SH.has H414 (b364, 1) (.int .i64 x424) ∧
      ∃ bs426 : List UInt8,
      (⟨some (b390, 0), s388.size, n391⟩ : Sl).len = bs426.length ∧
      SH.row H413 (⟨some (b390, 0), s388.size, n391⟩ : Sl).a (byteCells bs426) ∧
      ∃ p429, l412.a = some p429 ∧ 0 ≤ x422 ∧ x422 < (l412.len : Int) ∧
      ∃ p433, l412.a = some p433 ∧ 0 ≤ x424 ∧ x424 < (l412.len : Int) ∧
      SH.wrs H413 (p429.1, ((p429.2 + x422.toNat * 4) + 2)) 1 ∧ SH.le H414 (SH.setl H413 (p429.1, ((p429.2 + x422.toNat * 4) + 2)) [.string (⟨bs426.toArray⟩ : ByteArray)]) ∧
      SH.wrs (SH.setl H413 (p429.1, ((p429.2 + x422.toNat * 4) + 2)) [.string (⟨bs426.toArray⟩ : ByteArray)]) (p433.1, ((p433.2 + x424.toNat * 4) + 3)) 1 ∧
      ladinglaw19_NetPlays.j3 F K R1 p362 l412 l366 x367 x368 (SH.setl (SH.setl H413 (p429.1, ((p429.2 + x422.toNat * 4) + 2)) [.string (⟨bs426.toArray⟩ : ByteArray)]) (p433.1, ((p433.2 + x424.toNat * 4) + 3)) [.bool true])
     )
    ) ∧ (¬ (x365 = 0) →
     ladinglaw19_NetPlays.j3 F K R1 p362 l363 l366 x367 x368 H379
    )
   )
  )
 )
def ladinglaw19_NetPlays.j9 (F : Nat) (K : Bool → SH → Prop) (R1 : Option (Nat × Nat) → Sl → Sl → Int → Int → SH → Prop) (p332 : Option (Nat × Nat)) (l333 : Sl) (b334 : Nat) (x335 : Int) (l336 : Sl) (x337 : Int) (x338 : Int) (H : SH) : Prop :=
 ladinglaw19_NetPlays.j8 F K R1 p332 l333 b334 x335 l336 x337 x338 H
def ladinglaw19_NetPlays.j10 (F : Nat) (K : Bool → SH → Prop) (R1 : Option (Nat × Nat) → Sl → Sl → Int → Int → SH → Prop) (R2 : Option (Nat × Nat) → Sl → Nat → Sl → Sl → Int → Int → Sl → Int → Int → SH → Prop) (p495 : Option (Nat × Nat)) (l496 : Sl) (b497 : Nat) (l498 : Sl) (l499 : Sl) (x500 : Int) (x501 : Int) (l502 : Sl) (x503 : Int) (x504 : Int) (H : SH) : Prop :=
 R2 p495 l496 b497 l498 l499 x500 x501 l502 x503 (w64 (x504 + 1)) H
def ladinglaw19_NetPlays.j11 (F : Nat) (K : Bool → SH → Prop) (R1 : Option (Nat × Nat) → Sl → Sl → Int → Int → SH → Prop) (R2 : Option (Nat × Nat) → Sl → Nat → Sl → Sl → Int → Int → Sl → Int → Int → SH → Prop) (p485 : Option (Nat × Nat)) (l486 : Sl) (b487 : Nat) (l488 : Sl) (l489 : Sl) (x490 : Int) (x491 : Int) (l492 : Sl) (x493 : Int) (x494 : Int) (H : SH) : Prop :=
 ladinglaw19_NetPlays.j10 F K R1 R2 p485 l486 b487 l488 l489 x490 x491 l492 x493 x494 H
def ladinglaw19_NetPlays.r2 (F : Nat) (K : Bool → SH → Prop) (R1 : Option (Nat × Nat) → Sl → Sl → Int → Int → SH → Prop) (R2 : Option (Nat × Nat) → Sl → Nat → Sl → Sl → Int → Int → Sl → Int → Int → SH → Prop) (p444 : Option (Nat × Nat)) (l445 : Sl) (b446 : Nat) (l447 : Sl) (l448 : Sl) (x449 : Int) (x450 : Int) (l451 : Sl) (x452 : Int) (x453 : Int) (H : SH) : Prop :=
 (x453 < x452 →
  ∃ p455, l451.a = some p455 ∧ 0 ≤ x453 ∧ x453 < (l451.len : Int) ∧
  ∃ (x459 : Int) (x460 : Int) (s461 : ByteArray) (q462 : Bool),
  SH.row H (some (p455.1, (p455.2 + x453.toNat * 4))) [.int .i64 x459, .int .i64 x460, .string s461, .bool q462] ∧
  ∀ b464, H b464 = none →
  SH.wrs (SH.upd H b464 ⟨[.int .i64 0, .int .i64 0, .string ByteArray.empty, .bool false], 36, false, 4⟩) (b464, 0) 4 ∧
  ∃ (x467 : Int),
  SH.has (SH.setl (SH.upd H b464 ⟨[.int .i64 0, .int .i64 0, .string ByteArray.empty, .bool false], 36, false, 4⟩) (b464, 0) [.int .i64 x459, .int .i64 x460, .string s461, .bool q462]) (b464, 0) (.int .i64 x467) ∧
  ∃ (x469 : Int),
  SH.has (SH.setl (SH.upd H b464 ⟨[.int .i64 0, .int .i64 0, .string ByteArray.empty, .bool false], 36, false, 4⟩) (b464, 0) [.int .i64 x459, .int .i64 x460, .string s461, .bool q462]) (b446, 1) (.int .i64 x469) ∧
  (x467 ≠ x469 →
   ∃ (x472 : Int),
   SH.has (SH.setl (SH.upd H b464 ⟨[.int .i64 0, .int .i64 0, .string ByteArray.empty, .bool false], 36, false, 4⟩) (b464, 0) [.int .i64 x459, .int .i64 x460, .string s461, .bool q462]) (b464, 1) (.int .i64 x472) ∧
   ∃ (x474 : Int),
   SH.has (SH.setl (SH.upd H b464 ⟨[.int .i64 0, .int .i64 0, .string ByteArray.empty, .bool false], 36, false, 4⟩) (b464, 0) [.int .i64 x459, .int .i64 x460, .string s461, .bool q462]) (b446, 1) (.int .i64 x474) ∧
   (x472 ≠ x474 →
    ∃ (x477 : Int) (x478 : Int) (s479 : ByteArray) (q480 : Bool),
    SH.row (SH.setl (SH.upd H b464 ⟨[.int .i64 0, .int .i64 0, .string ByteArray.empty, .bool false], 36, false, 4⟩) (b464, 0) [.int .i64 x459, .int .i64 x460, .string s461, .bool q462]) (some (b464, 0)) [.int .i64 x477, .int .i64 x478, .string s479, .bool q480] ∧
    AppendQ (SH.setl (SH.upd H b464 ⟨[.int .i64 0, .int .i64 0, .string ByteArray.empty, .bool false], 36, false, 4⟩) (b464, 0) [.int .i64 x459, .int .i64 x460, .string s461, .bool q462]) 36 4 40 l447 1 [.int .i64 x477, .int .i64 x478, .string s479, .bool q480] (fun l482 H483 =>
     ladinglaw19_NetPlays.j11 F K R1 R2 p444 l445 b446 l482 l448 x449 x450 l451 x452 x453 H483
    )
   ) ∧ (¬ (x472 ≠ x474) →
    ladinglaw19_NetPlays.j11 F K R1 R2 p444 l445 b446 l447 l448 x449 x450 l451 x452 x453 (SH.setl (SH.upd H b464 ⟨[.int .i64 0, .int .i64 0, .string ByteArray.empty, .bool false], 36, false, 4⟩) (b464, 0) [.int .i64 x459, .int .i64 x460, .string s461, .bool q462])
   )
  ) ∧ (¬ (x467 ≠ x469) →
   ladinglaw19_NetPlays.j11 F K R1 R2 p444 l445 b446 l447 l448 x449 x450 l451 x452 x453 (SH.setl (SH.upd H b464 ⟨[.int .i64 0, .int .i64 0, .string ByteArray.empty, .bool false], 36, false, 4⟩) (b464, 0) [.int .i64 x459, .int .i64 x460, .string s461, .bool q462])
  )
 ) ∧ (¬ (x453 < x452) →
  ∃ (x507 : Int),
  SH.has H (b446, 1) (.int .i64 x507) ∧
  net_Net_Clear.wp F p444 x507 H (fun x509 H510 =>
   (x509 ≠ (w64 ((l445.len : Int) - (l447.len : Int))) →
    ∃ Hr, SH.le Hr H510 ∧ K false Hr
   ) ∧ (¬ (x509 ≠ (w64 ((l445.len : Int) - (l447.len : Int)))) →
    ladinglaw19_NetPlays.j3 F K R1 p444 l447 l448 x449 x450 H510
   )
  )
 )
def ladinglaw19_NetPlays.l2 (F : Nat) (K : Bool → SH → Prop) (R1 : Option (Nat × Nat) → Sl → Sl → Int → Int → SH → Prop) : Nat → Option (Nat × Nat) → Sl → Nat → Sl → Sl → Int → Int → Sl → Int → Int → SH → Prop
 | 0, _, _, _, _, _, _, _, _, _, _, _ => False
 | k + 1, p444, l445, b446, l447, l448, x449, x450, l451, x452, x453, H => ladinglaw19_NetPlays.r2 F K R1 (ladinglaw19_NetPlays.l2 F K R1 k) p444 l445 b446 l447 l448 x449 x450 l451 x452 x453 H
def ladinglaw19_NetPlays.j5 (F : Nat) (K : Bool → SH → Prop) (R1 : Option (Nat × Nat) → Sl → Sl → Int → Int → SH → Prop) (p99 : Option (Nat × Nat)) (l100 : Sl) (b101 : Nat) (q102 : Bool) (x103 : Int) (l104 : Sl) (x105 : Int) (x106 : Int) (x107 : Int) (q108 : Bool) (H : SH) : Prop :=
 (q108 = true →
  ∀ b110, H b110 = none →
  ∃ (x112 : Int),
  SH.has (SH.upd H b110 ⟨[.int .i64 0, .int .i64 0, .string ByteArray.empty], 34, false, 3⟩) (b101, 0) (.int .i64 x112) ∧
  (x112 = 1 →
   ∃ (x115 : Int),
   SH.has (SH.upd H b110 ⟨[.int .i64 0, .int .i64 0, .string ByteArray.empty], 34, false, 3⟩) (b101, 1) (.int .i64 x115) ∧
   net_Net_Take.wp F p99 x115 (SH.upd H b110 ⟨[.int .i64 0, .int .i64 0, .string ByteArray.empty], 34, false, 3⟩) (fun x117 x118 s119 e120 H121 =>
    SH.wrs H121 (b110, 0) 3 ∧
    ladinglaw19_NetPlays.j6 F K R1 p99 l100 b101 q102 x103 b110 e120 l104 x105 x106 (SH.setl H121 (b110, 0) [.int .i64 x117, .int .i64 x118, .string s119])
   )
  ) ∧ (¬ (x112 = 1) →
   ∃ (x133 : Int),
   SH.has (SH.upd H b110 ⟨[.int .i64 0, .int .i64 0, .string ByteArray.empty], 34, false, 3⟩) (b101, 1) (.int .i64 x133) ∧
   net_Net_Look.wp F p99 x133 (SH.upd H b110 ⟨[.int .i64 0, .int .i64 0, .string ByteArray.empty], 34, false, 3⟩) (fun x135 x136 s137 e138 H139 =>
    SH.wrs H139 (b110, 0) 3 ∧
    ladinglaw19_NetPlays.j6 F K R1 p99 l100 b101 q102 x103 b110 e138 l104 x105 x106 (SH.setl H139 (b110, 0) [.int .i64 x135, .int .i64 x136, .string s137])
   )
  )
 ) ∧ (¬ (q108 = true) →
  (x107 = 3 →
   ∃ (x208 : Int),
   SH.has H (b101, 1) (.int .i64 x208) ∧
   net_Net_Drop.wp F p99 x208 H (fun e210 H211 =>
    api_Code.wp F e210 H211 (fun x212 H213 =>
     (x212 ≠ x103 →
      ∃ Hr, SH.le Hr H213 ∧ K false Hr
     ) ∧ (¬ (x212 ≠ x103) →
      (q102 = true →
       ∃ H216, SH.le H216 H213 ∧
       ∃ (x226 : Int),
       SH.has H213 (b101, 1) (.int .i64 x226) ∧
       0 ≤ (0 : Int) ∧
       (0 : Int) ≤ x226 ∧
       x226 ≤ (l100.cap : Int) ∧
       ∃ (x231 : Int),
       SH.has H216 (b101, 1) (.int .i64 x231) ∧
       0 ≤ (w64 (x231 + 1)) ∧
       (w64 (x231 + 1)) ≤ (l100.len : Int) ∧
       (l100.len : Int) ≤ (l100.cap : Int) ∧
       ∃ w243, SH.row H213 (Sl.sub 4 l100 (0 : Int).toNat x226.toNat l100.cap).a w243 ∧
       (∀ b224, H213 b224 = none → AppendQ (SH.upd H213 b224 (⟨[], 36, false, 0⟩ : AO)) 36 4 40 (⟨some (b224, 0), 0, 0⟩ : Sl) (Sl.sub 4 l100 (0 : Int).toNat x226.toNat l100.cap).len w243 (fun l236 H237 => SH.le H216 H237 ∧
        ∃ w241, SH.row H237 (Sl.sub 4 l100 (w64 (x231 + 1)).toNat (l100.len : Int).toNat l100.cap).a w241 ∧
        AppendQ H237 36 4 40 l236 (Sl.sub 4 l100 (w64 (x231 + 1)).toNat (l100.len : Int).toNat l100.cap).len w241 (fun l239 H240 =>
         ladinglaw19_NetPlays.j3 F K R1 p99 l239 l104 x105 x106 H240
        )
       ))
      ) ∧ (¬ (q102 = true) →
       ladinglaw19_NetPlays.j3 F K R1 p99 l100 l104 x105 x106 H213
      )
     )
    )
   )
  ) ∧ (¬ (x107 = 3) →
   (x107 = 4 →
    ∃ (x246 : Int),
    SH.has H (b101, 1) (.int .i64 x246) ∧
    net_Net_Twice.wp F p99 x246 H (fun e248 H249 =>
     api_Code.wp F e248 H249 (fun x250 H251 =>
      (x250 ≠ x103 →
       ∃ Hr, SH.le Hr H251 ∧ K false Hr
      ) ∧ (¬ (x250 ≠ x103) →
       (q102 = true →
        ∃ (x254 : Int),
        SH.has H251 (b101, 1) (.int .i64 x254) ∧
        ∃ p256, l100.a = some p256 ∧ 0 ≤ x254 ∧ x254 < (l100.len : Int) ∧
        ∃ (x260 : Int) (x261 : Int) (s262 : ByteArray) (q263 : Bool),
        SH.row H251 (some (p256.1, (p256.2 + x254.toNat * 4))) [.int .i64 x260, .int .i64 x261, .string s262, .bool q263] ∧
        AppendQ H251 36 4 40 l100 1 [.int .i64 x260, .int .i64 x261, .string s262, .bool q263] (fun l265 H266 =>
         ladinglaw19_NetPlays.j3 F K R1 p99 l265 l104 x105 x106 H266
        )
       ) ∧ (¬ (q102 = true) →
        ladinglaw19_NetPlays.j3 F K R1 p99 l100 l104 x105 x106 H251
       )
      )
     )
    )
   ) ∧ (¬ (x107 = 4) →
    (x107 = 5 →
     ∃ (x269 : Int),
     SH.has H (b101, 1) (.int .i64 x269) ∧
     ∃ (x271 : Int),
     SH.has H (b101, 2) (.int .i64 x271) ∧
     net_Net_Turn.wp F p99 x269 x271 H (fun e273 H274 =>
      api_Code.wp F e273 H274 (fun x275 H276 =>
       (x275 ≠ x103 →
        ∃ Hr, SH.le Hr H276 ∧ K false Hr
       ) ∧ (¬ (x275 ≠ x103) →
        (q102 = true →
         ∃ (x279 : Int),
         SH.has H276 (b101, 1) (.int .i64 x279) ∧
         ∃ p281, l100.a = some p281 ∧ 0 ≤ x279 ∧ x279 < (l100.len : Int) ∧
         ∃ (x285 : Int) (x286 : Int) (s287 : ByteArray) (q288 : Bool),
         SH.row H276 (some (p281.1, (p281.2 + x279.toNat * 4))) [.int .i64 x285, .int .i64 x286, .string s287, .bool q288] ∧
         ∀ b290, H276 b290 = none →
         SH.wrs (SH.upd H276 b290 ⟨[.int .i64 0, .int .i64 0, .string ByteArray.empty, .bool false], 36, false, 4⟩) (b290, 0) 4 ∧
         ∃ H293, SH.le H293 (SH.setl (SH.upd H276 b290 ⟨[.int .i64 0, .int .i64 0, .string ByteArray.empty, .bool false], 36, false, 4⟩) (b290, 0) [.int .i64 x285, .int .i64 x286, .string s287, .bool q288]) ∧
         ∃ (x303 : Int),
         SH.has (SH.setl (SH.upd H276 b290 ⟨[.int .i64 0, .int .i64 0, .string ByteArray.empty, .bool false], 36, false, 4⟩) (b290, 0) [.int .i64 x285, .int .i64 x286, .string s287, .bool q288]) (b101, 1) (.int .i64 x303) ∧
         0 ≤ (0 : Int) ∧
         (0 : Int) ≤ x303 ∧
         x303 ≤ (l100.cap : Int) ∧
         ∃ (x308 : Int),
         SH.has H293 (b101, 1) (.int .i64 x308) ∧
         0 ≤ (w64 (x308 + 1)) ∧
         (w64 (x308 + 1)) ≤ (l100.len : Int) ∧
         (l100.len : Int) ≤ (l100.cap : Int) ∧
         ∃ w325, SH.row (SH.setl (SH.upd H276 b290 ⟨[.int .i64 0, .int .i64 0, .string ByteArray.empty, .bool false], 36, false, 4⟩) (b290, 0) [.int .i64 x285, .int .i64 x286, .string s287, .bool q288]) (Sl.sub 4 l100 (0 : Int).toNat x303.toNat l100.cap).a w325 ∧
         (∀ b301, (SH.setl (SH.upd H276 b290 ⟨[.int .i64 0, .int .i64 0, .string ByteArray.empty, .bool false], 36, false, 4⟩) (b290, 0) [.int .i64 x285, .int .i64 x286, .string s287, .bool q288]) b301 = none → AppendQ (SH.upd (SH.setl (SH.upd H276 b290 ⟨[.int .i64 0, .int .i64 0, .string ByteArray.empty, .bool false], 36, false, 4⟩) (b290, 0) [.int .i64 x285, .int .i64 x286, .string s287, .bool q288]) b301 (⟨[], 36, false, 0⟩ : AO)) 36 4 40 (⟨some (b301, 0), 0, 0⟩ : Sl) (Sl.sub 4 l100 (0 : Int).toNat x303.toNat l100.cap).len w325 (fun l313 H314 => SH.le H293 H314 ∧
          ∃ w323, SH.row H314 (Sl.sub 4 l100 (w64 (x308 + 1)).toNat (l100.len : Int).toNat l100.cap).a w323 ∧
          AppendQ H314 36 4 40 l313 (Sl.sub 4 l100 (w64 (x308 + 1)).toNat (l100.len : Int).toNat l100.cap).len w323 (fun l316 H317 =>
           ∃ (x318 : Int),
           SH.has H317 (b101, 2) (.int .i64 x318) ∧
           App3 H317 36 4 40 l316 (imin (imax x318 0) (l316.len : Int)) (b290, 0) (fun l320 H321 =>
            ladinglaw19_NetPlays.j3 F K R1 p99 l320 l104 x105 x106 H321
           )
          )
         ))
        ) ∧ (¬ (q102 = true) →
         ladinglaw19_NetPlays.j3 F K R1 p99 l100 l104 x105 x106 H276
        )
       )
      )
     )
    ) ∧ (¬ (x107 = 5) →
     (x107 = 6 →
      (q102 = true →
       ∃ (x329 : Int),
       SH.has H (b101, 2) (.int .i64 x329) ∧
       (x329 < 0 →
        ladinglaw19_NetPlays.j9 F K R1 p99 l100 b101 2 l104 x105 x106 H
       ) ∧ (¬ (x329 < 0) →
        ∃ (x339 : Int),
        SH.has H (b101, 2) (.int .i64 x339) ∧
        ∃ (x341 : Int),
        SH.has H (b101, 1) (.int .i64 x341) ∧
        ∃ p343, l100.a = some p343 ∧ 0 ≤ x341 ∧ x341 < (l100.len : Int) ∧
        ∃ (s347 : ByteArray),
        SH.has H (p343.1, ((p343.2 + x341.toNat * 4) + 2)) (.string s347) ∧
        (x339 ≥ (s347.size : Int) →
         ladinglaw19_NetPlays.j9 F K R1 p99 l100 b101 2 l104 x105 x106 H
        ) ∧ (¬ (x339 ≥ (s347.size : Int)) →
         ∃ (x350 : Int),
         SH.has H (b101, 3) (.int .u8 x350) ∧
         (x350 = 0 →
          ladinglaw19_NetPlays.j9 F K R1 p99 l100 b101 1 l104 x105 x106 H
         ) ∧ (¬ (x350 = 0) →
          ∃ (x353 : Int),
          SH.has H (b101, 1) (.int .i64 x353) ∧
          ∃ p355, l100.a = some p355 ∧ 0 ≤ x353 ∧ x353 < (l100.len : Int) ∧
          ∃ (q359 : Bool),
          SH.has H (p355.1, ((p355.2 + x353.toNat * 4) + 3)) (.bool q359) ∧
          (q359 = true →
           ladinglaw19_NetPlays.j9 F K R1 p99 l100 b101 12 l104 x105 x106 H
          ) ∧ (¬ (q359 = true) →
           ladinglaw19_NetPlays.j9 F K R1 p99 l100 b101 x103 l104 x105 x106 H
          )
         )
        )
       )
      ) ∧ (¬ (q102 = true) →
       ladinglaw19_NetPlays.j9 F K R1 p99 l100 b101 x103 l104 x105 x106 H
      )
     ) ∧ (¬ (x107 = 6) →
      (x107 = 7 →
       ladinglaw19_NetPlays.l2 F K R1 F p99 l100 b101 Sl.nil l104 x105 x106 l100 (l100.len : Int) 0 H
      ) ∧ (¬ (x107 = 7) →
       ladinglaw19_NetPlays.j3 F K R1 p99 l100 l104 x105 x106 H
      )
     )
    )
   )
  )
 )
def ladinglaw19_NetPlays.j1 (F : Nat) (K : Bool → SH → Prop) (R1 : Option (Nat × Nat) → Sl → Sl → Int → Int → SH → Prop) (p36 : Option (Nat × Nat)) (l37 : Sl) (b38 : Nat) (q39 : Bool) (x40 : Int) (l41 : Sl) (x42 : Int) (x43 : Int) (H : SH) : Prop :=
 ∃ (x44 : Int),
 SH.has H (b38, 0) (.int .i64 x44) ∧
 (x44 = 0 →
  ∃ (x47 : Int),
  SH.has H (b38, 1) (.int .i64 x47) ∧
  (x47 < 0 →
   ladinglaw19_NetPlays.j4 F K R1 p36 l37 b38 1 l41 x42 x43 H
  ) ∧ (¬ (x47 < 0) →
   ∃ (x57 : Int),
   SH.has H (b38, 1) (.int .i64 x57) ∧
   (x57 > 5 →
    ladinglaw19_NetPlays.j4 F K R1 p36 l37 b38 1 l41 x42 x43 H
   ) ∧ (¬ (x57 > 5) →
    ∃ (x60 : Int),
    SH.has H (b38, 2) (.int .i64 x60) ∧
    (x60 < 0 →
     ladinglaw19_NetPlays.j4 F K R1 p36 l37 b38 1 l41 x42 x43 H
    ) ∧ (¬ (x60 < 0) →
     ∃ (x63 : Int),
     SH.has H (b38, 2) (.int .i64 x63) ∧
     (x63 > 4 →
      ladinglaw19_NetPlays.j4 F K R1 p36 l37 b38 1 l41 x42 x43 H
     ) ∧ (¬ (x63 > 4) →
      ∃ (x66 : Int),
      SH.has H (b38, 1) (.int .i64 x66) ∧
      ∃ (x68 : Int),
      SH.has H (b38, 2) (.int .i64 x68) ∧
      (x66 = x68 →
       ladinglaw19_NetPlays.j4 F K R1 p36 l37 b38 1 l41 x42 x43 H
      ) ∧ (¬ (x66 = x68) →
       ladinglaw19_NetPlays.j4 F K R1 p36 l37 b38 0 l41 x42 x43 H
      )
     )
    )
   )
  )
 ) ∧ (¬ (x44 = 0) →
  (x44 = 1 →
   ladinglaw19_NetPlays.j5 F K R1 p36 l37 b38 q39 x40 l41 x42 x43 x44 (x44 == 1) H
  ) ∧ (¬ (x44 = 1) →
   ladinglaw19_NetPlays.j5 F K R1 p36 l37 b38 q39 x40 l41 x42 x43 x44 (x44 == 2) H
  )
 )
def ladinglaw19_NetPlays.r5 (F : Nat) (K : Bool → SH → Prop) (R1 : Option (Nat × Nat) → Sl → Sl → Int → Int → SH → Prop) (R5 : Option (Nat × Nat) → Sl → Sl → Int → Int → Sl → Int → Int → SH → Prop) (p881 : Option (Nat × Nat)) (l882 : Sl) (l883 : Sl) (x884 : Int) (x885 : Int) (l886 : Sl) (x887 : Int) (x888 : Int) (H : SH) : Prop :=
 (x888 < x887 →
  ∃ p890, l886.a = some p890 ∧ 0 ≤ x888 ∧ x888 < (l886.len : Int) ∧
  ∃ (x894 : Int) (x895 : Int) (s896 : ByteArray),
  SH.row H (some (p890.1, (p890.2 + x888.toNat * 3))) [.int .i64 x894, .int .i64 x895, .string s896] ∧
  ∀ b898, H b898 = none →
  SH.wrs (SH.upd H b898 ⟨[.int .i64 0, .int .i64 0, .string ByteArray.empty], 34, false, 3⟩) (b898, 0) 3 ∧
  ∃ (x901 : Int) (x902 : Int) (s903 : ByteArray),
  SH.row (SH.setl (SH.upd H b898 ⟨[.int .i64 0, .int .i64 0, .string ByteArray.empty], 34, false, 3⟩) (b898, 0) [.int .i64 x894, .int .i64 x895, .string s896]) (some (b898, 0)) [.int .i64 x901, .int .i64 x902, .string s903] ∧
  ∃ p905, l882.a = some p905 ∧ 0 ≤ x888 ∧ x888 < (l882.len : Int) ∧
  ∃ (x909 : Int) (x910 : Int) (s911 : ByteArray),
  SH.row (SH.setl (SH.upd H b898 ⟨[.int .i64 0, .int .i64 0, .string ByteArray.empty], 34, false, 3⟩) (b898, 0) [.int .i64 x894, .int .i64 x895, .string s896]) (some (p905.1, (p905.2 + x888.toNat * 4))) [.int .i64 x909, .int .i64 x910, .string s911] ∧
  ((x901 = x909 ∧ x902 = x910 ∧ s903 = s911) →
   R5 p881 l882 l883 x884 x885 l886 x887 (w64 (x888 + 1)) (SH.setl (SH.upd H b898 ⟨[.int .i64 0, .int .i64 0, .string ByteArray.empty], 34, false, 3⟩) (b898, 0) [.int .i64 x894, .int .i64 x895, .string s896])
  ) ∧ (¬ ((x901 = x909 ∧ x902 = x910 ∧ s903 = s911)) →
   ∃ Hr, SH.le Hr (SH.setl (SH.upd H b898 ⟨[.int .i64 0, .int .i64 0, .string ByteArray.empty], 34, false, 3⟩) (b898, 0) [.int .i64 x894, .int .i64 x895, .string s896]) ∧ K false Hr
  )
 ) ∧ (¬ (x888 < x887) →
  R1 p881 l882 l883 x884 (w64 (x885 + 1)) H
 )
def ladinglaw19_NetPlays.l5 (F : Nat) (K : Bool → SH → Prop) (R1 : Option (Nat × Nat) → Sl → Sl → Int → Int → SH → Prop) : Nat → Option (Nat × Nat) → Sl → Sl → Int → Int → Sl → Int → Int → SH → Prop
 | 0, _, _, _, _, _, _, _, _, _ => False
 | k + 1, p881, l882, l883, x884, x885, l886, x887, x888, H => ladinglaw19_NetPlays.r5 F K R1 (ladinglaw19_NetPlays.l5 F K R1 k) p881 l882 l883 x884 x885 l886 x887 x888 H
def ladinglaw19_NetPlays.j13 (F : Nat) (K : Bool → SH → Prop) (R1 : Option (Nat × Nat) → Sl → Sl → Int → Int → SH → Prop) (p869 : Option (Nat × Nat)) (l870 : Sl) (l871 : Sl) (x872 : Int) (x873 : Int) (H : SH) : Prop :=
 net_Net_All.wp F p869 H (fun l875 H876 =>
  net_Net_Len.wp F p869 H876 (fun x877 H878 =>
   (x877 ≠ (l870.len : Int) →
    ∃ Hr, SH.le Hr H878 ∧ K false Hr
   ) ∧ (¬ (x877 ≠ (l870.len : Int)) →
    ((l875.len : Int) ≠ (l870.len : Int) →
     ∃ Hr, SH.le Hr H878 ∧ K false Hr
    ) ∧ (¬ ((l875.len : Int) ≠ (l870.len : Int)) →
     ladinglaw19_NetPlays.l5 F K R1 F p869 l870 l871 x872 x873 l875 (l875.len : Int) 0 H878
    )
   )
  )
 )
def ladinglaw19_NetPlays.j14 (F : Nat) (K : Bool → SH → Prop) (R1 : Option (Nat × Nat) → Sl → Sl → Int → Int → SH → Prop) (p619 : Option (Nat × Nat)) (l620 : Sl) (l621 : Sl) (x622 : Int) (x623 : Int) (H : SH) : Prop :=
 ladinglaw19_NetPlays.j13 F K R1 p619 l620 l621 x622 x623 H
def ladinglaw19_NetPlays.j15 (F : Nat) (K : Bool → SH → Prop) (R1 : Option (Nat × Nat) → Sl → Sl → Int → Int → SH → Prop) (p577 : Option (Nat × Nat)) (l578 : Sl) (b579 : Nat) (x580 : Int) (l581 : Sl) (x582 : Int) (x583 : Int) (H : SH) : Prop :=
 ∃ (x598 : Int),
 SH.has H (b579, 1) (.int .i64 x598) ∧
 ∃ (x600 : Int),
 SH.has H (b579, 2) (.int .i64 x600) ∧
 ∃ (s602 : ByteArray),
 SH.has H (b579, 4) (.string s602) ∧
 net_Net_Send.wp F p577 x598 x600 s602 H (fun e604 H605 =>
  api_Code.wp F e604 H605 (fun x606 H607 =>
   (x606 ≠ x580 →
    ∃ Hr, SH.le Hr H607 ∧ K false Hr
   ) ∧ (¬ (x606 ≠ x580) →
    (x580 = 0 →
     ∃ (x610 : Int),
     SH.has H607 (b579, 1) (.int .i64 x610) ∧
     ∃ (x612 : Int),
     SH.has H607 (b579, 2) (.int .i64 x612) ∧
     ∃ (s614 : ByteArray),
     SH.has H607 (b579, 4) (.string s614) ∧
     AppendQ H607 36 4 40 l578 1 [.int .i64 x610, .int .i64 x612, .string s614, .bool false] (fun l616 H617 =>
      ladinglaw19_NetPlays.j14 F K R1 p577 l616 l581 x582 x583 H617
     )
    ) ∧ (¬ (x580 = 0) →
     ladinglaw19_NetPlays.j14 F K R1 p577 l578 l581 x582 x583 H607
    )
   )
  )
 )
def ladinglaw19_NetPlays.j18 (F : Nat) (K : Bool → SH → Prop) (R1 : Option (Nat × Nat) → Sl → Sl → Int → Int → SH → Prop) (p674 : Option (Nat × Nat)) (l675 : Sl) (b676 : Nat) (l677 : Sl) (x678 : Int) (x679 : Int) (H : SH) : Prop :=
 ladinglaw19_NetPlays.j14 F K R1 p674 l675 l677 x678 x679 H
def ladinglaw19_NetPlays.j17 (F : Nat) (K : Bool → SH → Prop) (R1 : Option (Nat × Nat) → Sl → Sl → Int → Int → SH → Prop) (p649 : Option (Nat × Nat)) (l650 : Sl) (b651 : Nat) (x652 : Int) (b653 : Nat) (e654 : Option EV) (l655 : Sl) (x656 : Int) (x657 : Int) (H : SH) : Prop :=
 ∃ (x666 : Int),
 api_Code.wp F e654 H (fun x666' H' => x666' = x666 ∧ H' = H) ∧
 (x666 ≠ x652 →
  ∃ Hr, SH.le Hr H ∧ K false Hr
 ) ∧ (¬ (x666 ≠ x652) →
  ∃ (x669 : Int) (x670 : Int) (s671 : ByteArray),
  SH.row H (some (b653, 0)) [.int .i64 x669, .int .i64 x670, .string s671] ∧
  ((x669 = 0 ∧ x670 = 0 ∧ s671 = ByteArray.empty) →
   ladinglaw19_NetPlays.j18 F K R1 p649 l650 b651 l655 x656 x657 H
  ) ∧ (¬ ((x669 = 0 ∧ x670 = 0 ∧ s671 = ByteArray.empty)) →
   ∃ Hr, SH.le Hr H ∧ K false Hr
  )
 )
def ladinglaw19_NetPlays.j19 (F : Nat) (K : Bool → SH → Prop) (R1 : Option (Nat × Nat) → Sl → Sl → Int → Int → SH → Prop) (p716 : Option (Nat × Nat)) (l717 : Sl) (b718 : Nat) (x719 : Int) (l720 : Sl) (x721 : Int) (x722 : Int) (H : SH) : Prop :=
 ∃ (x724 : Int),
 SH.has H (b718, 1) (.int .i64 x724) ∧
 ∃ (x726 : Int),
 SH.has H (b718, 2) (.int .i64 x726) ∧
 ∃ (x728 : Int),
 SH.has H (b718, 3) (.int .u8 x728) ∧
 net_Net_Spoil.wp F p716 x724 x726 x728 H (fun e730 H731 =>
  api_Code.wp F e730 H731 (fun x732 H733 =>
   (x732 ≠ x719 →
    ∃ Hr, SH.le Hr H733 ∧ K false Hr
   ) ∧ (¬ (x732 ≠ x719) →
    (x719 = 0 →
     ∃ (x736 : Int),
     SH.has H733 (b718, 1) (.int .i64 x736) ∧
     ∃ p738, l717.a = some p738 ∧ 0 ≤ x736 ∧ x736 < (l717.len : Int) ∧
     ∃ (s742 : ByteArray),
     SH.has H733 (p738.1, ((p738.2 + x736.toNat * 4) + 2)) (.string s742) ∧
     ∀ b744 n745, H733 b744 = none → s742.size ≤ n745 →
     ∃ (x748 : Int),
     SH.has (SH.upd H733 b744 ⟨byteCells s742.data.toList, 5, false, n745⟩) (b718, 2) (.int .i64 x748) ∧
     ∃ p750, (⟨some (b744, 0), s742.size, n745⟩ : Sl).a = some p750 ∧ 0 ≤ x748 ∧ x748 < ((⟨some (b744, 0), s742.size, n745⟩ : Sl).len : Int) ∧
     ∃ (x754 : Int),
     SH.has (SH.upd H733 b744 ⟨byteCells s742.data.toList, 5, false, n745⟩) (p750.1, (p750.2 + x748.toNat * 1)) (.int .u8 x754) ∧
     ∃ (x756 : Int),
     SH.has (SH.upd H733 b744 ⟨byteCells s742.data.toList, 5, false, n745⟩) (b718, 3) (.int .u8 x756) ∧
     ∃ p758, (⟨some (b744, 0), s742.size, n745⟩ : Sl).a = some p758 ∧ 0 ≤ x748 ∧ x748 < ((⟨some (b744, 0), s742.size, n745⟩ : Sl).len : Int) ∧
     SH.wrs (SH.upd H733 b744 ⟨byteCells s742.data.toList, 5, false, n745⟩) (p758.1, (p758.2 + x748.toNat * 1)) 1 ∧
     ∀ b764, (SH.setl (SH.upd H733 b744 ⟨byteCells s742.data.toList, 5, false, n745⟩) (p758.1, (p758.2 + x748.toNat * 1)) [.int .u8 (ibits .xor .u8 x754 x756)]) b764 = none →
     ∃ w794, SH.row (SH.upd (SH.setl (SH.upd H733 b744 ⟨byteCells s742.data.toList, 5, false, n745⟩) (p758.1, (p758.2 + x748.toNat * 1)) [.int .u8 (ibits .xor .u8 x754 x756)]) b764 ⟨[], 36, false, 0⟩) l717.a w794 ∧
     AppendQ (SH.upd (SH.setl (SH.upd H733 b744 ⟨byteCells s742.data.toList, 5, false, n745⟩) (p758.1, (p758.2 + x748.toNat * 1)) [.int .u8 (ibits .xor .u8 x754 x756)]) b764 ⟨[], 36, false, 0⟩) 36 4 40 (⟨some (b764, 0), 0, 0⟩ : Sl) l717.len w794 (fun l766 H767 =>
      ∃ H768, SH.le H768 H767 ∧
      ∃ (x776 : Int),
      SH.has H767 (b718, 1) (.int .i64 x776) ∧
      ∃ (x778 : Int),
      SH.has H768 (b718, 1) (.int .i64 x778) ∧
      ∃ bs780 : List UInt8,
      (⟨some (b744, 0), s742.size, n745⟩ : Sl).len = bs780.length ∧
      SH.row H767 (⟨some (b744, 0), s742.size, n745⟩ : Sl).a (byteCells bs780) ∧
      ∃ p783, l766.a = some p783 ∧ 0 ≤ x776 ∧ x776 < (l766.len : Int) ∧
      ∃ p787, l766.a = some p787 ∧ 0 ≤ x778 ∧ x778 < (l766.len : Int) ∧
      SH.wrs H767 (p783.1, ((p783.2 + x776.toNat * 4) + 2)) 1 ∧ SH.le H768 (SH.setl H767 (p783.1, ((p783.2 + x776.toNat * 4) + 2)) [.string (⟨bs780.toArray⟩ : ByteArray)]) ∧
      SH.wrs (SH.setl H767 (p783.1, ((p783.2 + x776.toNat * 4) + 2)) [.string (⟨bs780.toArray⟩ : ByteArray)]) (p787.1, ((p787.2 + x778.toNat * 4) + 3)) 1 ∧
      ladinglaw19_NetPlays.j14 F K R1 p716 l766 l720 x721 x722 (SH.setl (SH.setl H767 (p783.1, ((p783.2 + x776.toNat * 4) + 2)) [.string (⟨bs780.toArray⟩ : ByteArray)]) (p787.1, ((p787.2 + x778.toNat * 4) + 3)) [.bool true])
     )
    ) ∧ (¬ (x719 = 0) →
     ladinglaw19_NetPlays.j14 F K R1 p716 l717 l720 x721 x722 H733
    )
   )
  )
 )
def ladinglaw19_NetPlays.j20 (F : Nat) (K : Bool → SH → Prop) (R1 : Option (Nat × Nat) → Sl → Sl → Int → Int → SH → Prop) (p709 : Option (Nat × Nat)) (l710 : Sl) (b711 : Nat) (x712 : Int) (l713 : Sl) (x714 : Int) (x715 : Int) (H : SH) : Prop :=
 ladinglaw19_NetPlays.j19 F K R1 p709 l710 b711 x712 l713 x714 x715 H
def ladinglaw19_NetPlays.j21 (F : Nat) (K : Bool → SH → Prop) (R1 : Option (Nat × Nat) → Sl → Sl → Int → Int → SH → Prop) (R4 : Option (Nat × Nat) → Sl → Nat → Sl → Sl → Int → Int → Sl → Int → Int → SH → Prop) (p849 : Option (Nat × Nat)) (l850 : Sl) (b851 : Nat) (l852 : Sl) (l853 : Sl) (x854 : Int) (x855 : Int) (l856 : Sl) (x857 : Int) (x858 : Int) (H : SH) : Prop :=
 R4 p849 l850 b851 l852 l853 x854 x855 l856 x857 (w64 (x858 + 1)) H
def ladinglaw19_NetPlays.j22 (F : Nat) (K : Bool → SH → Prop) (R1 : Option (Nat × Nat) → Sl → Sl → Int → Int → SH → Prop) (R4 : Option (Nat × Nat) → Sl → Nat → Sl → Sl → Int → Int → Sl → Int → Int → SH → Prop) (p839 : Option (Nat × Nat)) (l840 : Sl) (b841 : Nat) (l842 : Sl) (l843 : Sl) (x844 : Int) (x845 : Int) (l846 : Sl) (x847 : Int) (x848 : Int) (H : SH) : Prop :=
 ladinglaw19_NetPlays.j21 F K R1 R4 p839 l840 b841 l842 l843 x844 x845 l846 x847 x848 H
def ladinglaw19_NetPlays.r4 (F : Nat) (K : Bool → SH → Prop) (R1 : Option (Nat × Nat) → Sl → Sl → Int → Int → SH → Prop) (R4 : Option (Nat × Nat) → Sl → Nat → Sl → Sl → Int → Int → Sl → Int → Int → SH → Prop) (p798 : Option (Nat × Nat)) (l799 : Sl) (b800 : Nat) (l801 : Sl) (l802 : Sl) (x803 : Int) (x804 : Int) (l805 : Sl) (x806 : Int) (x807 : Int) (H : SH) : Prop :=
 (x807 < x806 →
  ∃ p809, l805.a = some p809 ∧ 0 ≤ x807 ∧ x807 < (l805.len : Int) ∧
  ∃ (x813 : Int) (x814 : Int) (s815 : ByteArray) (q816 : Bool),
  SH.row H (some (p809.1, (p809.2 + x807.toNat * 4))) [.int .i64 x813, .int .i64 x814, .string s815, .bool q816] ∧
  ∀ b818, H b818 = none →
  SH.wrs (SH.upd H b818 ⟨[.int .i64 0, .int .i64 0, .string ByteArray.empty, .bool false], 36, false, 4⟩) (b818, 0) 4 ∧
  ∃ (x821 : Int),
  SH.has (SH.setl (SH.upd H b818 ⟨[.int .i64 0, .int .i64 0, .string ByteArray.empty, .bool false], 36, false, 4⟩) (b818, 0) [.int .i64 x813, .int .i64 x814, .string s815, .bool q816]) (b818, 0) (.int .i64 x821) ∧
  ∃ (x823 : Int),
  SH.has (SH.setl (SH.upd H b818 ⟨[.int .i64 0, .int .i64 0, .string ByteArray.empty, .bool false], 36, false, 4⟩) (b818, 0) [.int .i64 x813, .int .i64 x814, .string s815, .bool q816]) (b800, 1) (.int .i64 x823) ∧
  (x821 ≠ x823 →
   ∃ (x826 : Int),
   SH.has (SH.setl (SH.upd H b818 ⟨[.int .i64 0, .int .i64 0, .string ByteArray.empty, .bool false], 36, false, 4⟩) (b818, 0) [.int .i64 x813, .int .i64 x814, .string s815, .bool q816]) (b818, 1) (.int .i64 x826) ∧
   ∃ (x828 : Int),
   SH.has (SH.setl (SH.upd H b818 ⟨[.int .i64 0, .int .i64 0, .string ByteArray.empty, .bool false], 36, false, 4⟩) (b818, 0) [.int .i64 x813, .int .i64 x814, .string s815, .bool q816]) (b800, 1) (.int .i64 x828) ∧
   (x826 ≠ x828 →
    ∃ (x831 : Int) (x832 : Int) (s833 : ByteArray) (q834 : Bool),
    SH.row (SH.setl (SH.upd H b818 ⟨[.int .i64 0, .int .i64 0, .string ByteArray.empty, .bool false], 36, false, 4⟩) (b818, 0) [.int .i64 x813, .int .i64 x814, .string s815, .bool q816]) (some (b818, 0)) [.int .i64 x831, .int .i64 x832, .string s833, .bool q834] ∧
    AppendQ (SH.setl (SH.upd H b818 ⟨[.int .i64 0, .int .i64 0, .string ByteArray.empty, .bool false], 36, false, 4⟩) (b818, 0) [.int .i64 x813, .int .i64 x814, .string s815, .bool q816]) 36 4 40 l801 1 [.int .i64 x831, .int .i64 x832, .string s833, .bool q834] (fun l836 H837 =>
     ladinglaw19_NetPlays.j22 F K R1 R4 p798 l799 b800 l836 l802 x803 x804 l805 x806 x807 H837
    )
   ) ∧ (¬ (x826 ≠ x828) →
    ladinglaw19_NetPlays.j22 F K R1 R4 p798 l799 b800 l801 l802 x803 x804 l805 x806 x807 (SH.setl (SH.upd H b818 ⟨[.int .i64 0, .int .i64 0, .string ByteArray.empty, .bool false], 36, false, 4⟩) (b818, 0) [.int .i64 x813, .int .i64 x814, .string s815, .bool q816])
   )
  ) ∧ (¬ (x821 ≠ x823) →
   ladinglaw19_NetPlays.j22 F K R1 R4 p798 l799 b800 l801 l802 x803 x804 l805 x806 x807 (SH.setl (SH.upd H b818 ⟨[.int .i64 0, .int .i64 0, .string ByteArray.empty, .bool false], 36, false, 4⟩) (b818, 0) [.int .i64 x813, .int .i64 x814, .string s815, .bool q816])
  )
 ) ∧ (¬ (x807 < x806) →
  ∃ (x861 : Int),
  SH.has H (b800, 1) (.int .i64 x861) ∧
  net_Net_Clear.wp F p798 x861 H (fun x863 H864 =>
   (x863 ≠ (w64 ((l799.len : Int) - (l801.len : Int))) →
    ∃ Hr, SH.le Hr H864 ∧ K false Hr
   ) ∧ (¬ (x863 ≠ (w64 ((l799.len : Int) - (l801.len : Int)))) →
    ladinglaw19_NetPlays.j14 F K R1 p798 l801 l802 x803 x804 H864
   )
  )
 )
def ladinglaw19_NetPlays.l4 (F : Nat) (K : Bool → SH → Prop) (R1 : Option (Nat × Nat) → Sl → Sl → Int → Int → SH → Prop) : Nat → Option (Nat × Nat) → Sl → Nat → Sl → Sl → Int → Int → Sl → Int → Int → SH → Prop
 | 0, _, _, _, _, _, _, _, _, _, _, _ => False
 | k + 1, p798, l799, b800, l801, l802, x803, x804, l805, x806, x807, H => ladinglaw19_NetPlays.r4 F K R1 (ladinglaw19_NetPlays.l4 F K R1 k) p798 l799 b800 l801 l802 x803 x804 l805 x806 x807 H
def ladinglaw19_NetPlays.j16 (F : Nat) (K : Bool → SH → Prop) (R1 : Option (Nat × Nat) → Sl → Sl → Int → Int → SH → Prop) (p626 : Option (Nat × Nat)) (l627 : Sl) (b628 : Nat) (x629 : Int) (l630 : Sl) (x631 : Int) (x632 : Int) (x633 : Int) (q634 : Bool) (H : SH) : Prop :=
 (q634 = true →
  ∀ b636, H b636 = none →
  ∃ (x638 : Int),
  SH.has (SH.upd H b636 ⟨[.int .i64 0, .int .i64 0, .string ByteArray.empty], 34, false, 3⟩) (b628, 0) (.int .i64 x638) ∧
  (x638 = 1 →
   ∃ (x641 : Int),
   SH.has (SH.upd H b636 ⟨[.int .i64 0, .int .i64 0, .string ByteArray.empty], 34, false, 3⟩) (b628, 1) (.int .i64 x641) ∧
   net_Net_Take.wp F p626 x641 (SH.upd H b636 ⟨[.int .i64 0, .int .i64 0, .string ByteArray.empty], 34, false, 3⟩) (fun x643 x644 s645 e646 H647 =>
    SH.wrs H647 (b636, 0) 3 ∧
    ladinglaw19_NetPlays.j17 F K R1 p626 l627 b628 x629 b636 e646 l630 x631 x632 (SH.setl H647 (b636, 0) [.int .i64 x643, .int .i64 x644, .string s645])
   )
  ) ∧ (¬ (x638 = 1) →
   ∃ (x658 : Int),
   SH.has (SH.upd H b636 ⟨[.int .i64 0, .int .i64 0, .string ByteArray.empty], 34, false, 3⟩) (b628, 1) (.int .i64 x658) ∧
   net_Net_Look.wp F p626 x658 (SH.upd H b636 ⟨[.int .i64 0, .int .i64 0, .string ByteArray.empty], 34, false, 3⟩) (fun x660 x661 s662 e663 H664 =>
    SH.wrs H664 (b636, 0) 3 ∧
    ladinglaw19_NetPlays.j17 F K R1 p626 l627 b628 x629 b636 e663 l630 x631 x632 (SH.setl H664 (b636, 0) [.int .i64 x660, .int .i64 x661, .string s662])
   )
  )
 ) ∧ (¬ (q634 = true) →
  (x633 = 3 →
   ∃ (x683 : Int),
   SH.has H (b628, 1) (.int .i64 x683) ∧
   net_Net_Drop.wp F p626 x683 H (fun e685 H686 =>
    api_Code.wp F e685 H686 (fun x687 H688 =>
     (x687 ≠ x629 →
      ∃ Hr, SH.le Hr H688 ∧ K false Hr
     ) ∧ (¬ (x687 ≠ x629) →
      ladinglaw19_NetPlays.j14 F K R1 p626 l627 l630 x631 x632 H688
     )
    )
   )
  ) ∧ (¬ (x633 = 3) →
   (x633 = 4 →
    ∃ (x691 : Int),
    SH.has H (b628, 1) (.int .i64 x691) ∧
    net_Net_Twice.wp F p626 x691 H (fun e693 H694 =>
     api_Code.wp F e693 H694 (fun x695 H696 =>
      (x695 ≠ x629 →
       ∃ Hr, SH.le Hr H696 ∧ K false Hr
      ) ∧ (¬ (x695 ≠ x629) →
       ladinglaw19_NetPlays.j14 F K R1 p626 l627 l630 x631 x632 H696
      )
     )
    )
   ) ∧ (¬ (x633 = 4) →
    (x633 = 5 →
     ∃ (x699 : Int),
     SH.has H (b628, 1) (.int .i64 x699) ∧
     ∃ (x701 : Int),
     SH.has H (b628, 2) (.int .i64 x701) ∧
     net_Net_Turn.wp F p626 x699 x701 H (fun e703 H704 =>
      api_Code.wp F e703 H704 (fun x705 H706 =>
       (x705 ≠ x629 →
        ∃ Hr, SH.le Hr H706 ∧ K false Hr
       ) ∧ (¬ (x705 ≠ x629) →
        ladinglaw19_NetPlays.j14 F K R1 p626 l627 l630 x631 x632 H706
       )
      )
     )
    ) ∧ (¬ (x633 = 5) →
     (x633 = 6 →
      ladinglaw19_NetPlays.j20 F K R1 p626 l627 b628 x629 l630 x631 x632 H
     ) ∧ (¬ (x633 = 6) →
      (x633 = 7 →
       ladinglaw19_NetPlays.l4 F K R1 F p626 l627 b628 Sl.nil l630 x631 x632 l627 (l627.len : Int) 0 H
      ) ∧ (¬ (x633 = 7) →
       ladinglaw19_NetPlays.j14 F K R1 p626 l627 l630 x631 x632 H
      )
     )
    )
   )
  )
 )
def ladinglaw19_NetPlays.j12 (F : Nat) (K : Bool → SH → Prop) (R1 : Option (Nat × Nat) → Sl → Sl → Int → Int → SH → Prop) (p564 : Option (Nat × Nat)) (l565 : Sl) (b566 : Nat) (x567 : Int) (l568 : Sl) (x569 : Int) (x570 : Int) (H : SH) : Prop :=
 ∃ (x571 : Int),
 SH.has H (b566, 0) (.int .i64 x571) ∧
 (x571 = 0 →
  ∃ (x574 : Int),
  SH.has H (b566, 1) (.int .i64 x574) ∧
  (x574 < 0 →
   ladinglaw19_NetPlays.j15 F K R1 p564 l565 b566 1 l568 x569 x570 H
  ) ∧ (¬ (x574 < 0) →
   ∃ (x584 : Int),
   SH.has H (b566, 1) (.int .i64 x584) ∧
   (x584 > 5 →
    ladinglaw19_NetPlays.j15 F K R1 p564 l565 b566 1 l568 x569 x570 H
   ) ∧ (¬ (x584 > 5) →
    ∃ (x587 : Int),
    SH.has H (b566, 2) (.int .i64 x587) ∧
    (x587 < 0 →
     ladinglaw19_NetPlays.j15 F K R1 p564 l565 b566 1 l568 x569 x570 H
    ) ∧ (¬ (x587 < 0) →
     ∃ (x590 : Int),
     SH.has H (b566, 2) (.int .i64 x590) ∧
     (x590 > 4 →
      ladinglaw19_NetPlays.j15 F K R1 p564 l565 b566 1 l568 x569 x570 H
     ) ∧ (¬ (x590 > 4) →
      ∃ (x593 : Int),
      SH.has H (b566, 1) (.int .i64 x593) ∧
      ∃ (x595 : Int),
      SH.has H (b566, 2) (.int .i64 x595) ∧
      (x593 = x595 →
       ladinglaw19_NetPlays.j15 F K R1 p564 l565 b566 1 l568 x569 x570 H
      ) ∧ (¬ (x593 = x595) →
       ladinglaw19_NetPlays.j15 F K R1 p564 l565 b566 0 l568 x569 x570 H
      )
     )
    )
   )
  )
 ) ∧ (¬ (x571 = 0) →
  (x571 = 1 →
   ladinglaw19_NetPlays.j16 F K R1 p564 l565 b566 x567 l568 x569 x570 x571 (x571 == 1) H
  ) ∧ (¬ (x571 = 1) →
   ladinglaw19_NetPlays.j16 F K R1 p564 l565 b566 x567 l568 x569 x570 x571 (x571 == 2) H
  )
 )
def ladinglaw19_NetPlays.r1 (F : Nat) (K : Bool → SH → Prop) (R1 : Option (Nat × Nat) → Sl → Sl → Int → Int → SH → Prop) (p8 : Option (Nat × Nat)) (l9 : Sl) (l10 : Sl) (x11 : Int) (x12 : Int) (H : SH) : Prop :=
 (x12 < x11 →
  ∃ p14, l10.a = some p14 ∧ 0 ≤ x12 ∧ x12 < (l10.len : Int) ∧
  ∃ (x18 : Int) (x19 : Int) (x20 : Int) (x21 : Int) (s22 : ByteArray),
  SH.row H (some (p14.1, (p14.2 + x12.toNat * 5))) [.int .i64 x18, .int .i64 x19, .int .i64 x20, .int .u8 x21, .string s22] ∧
  ∀ b24, H b24 = none →
  SH.wrs (SH.upd H b24 ⟨[.int .i64 0, .int .i64 0, .int .i64 0, .int .u8 0, .string ByteArray.empty], 28, false, 5⟩) (b24, 0) 5 ∧
  ∃ (s27 : ByteArray),
  SH.has (SH.setl (SH.upd H b24 ⟨[.int .i64 0, .int .i64 0, .int .i64 0, .int .u8 0, .string ByteArray.empty], 28, false, 5⟩) (b24, 0) [.int .i64 x18, .int .i64 x19, .int .i64 x20, .int .u8 x21, .string s22]) (b24, 4) (.string s27) ∧
  ((s27.size : Int) > 100 →
   ∃ Hr, SH.le Hr (SH.setl (SH.upd H b24 ⟨[.int .i64 0, .int .i64 0, .int .i64 0, .int .u8 0, .string ByteArray.empty], 28, false, 5⟩) (b24, 0) [.int .i64 x18, .int .i64 x19, .int .i64 x20, .int .u8 x21, .string s22]) ∧ K true Hr
  ) ∧ (¬ ((s27.size : Int) > 100) →
   ∃ (x30 : Int),
   SH.has (SH.setl (SH.upd H b24 ⟨[.int .i64 0, .int .i64 0, .int .i64 0, .int .u8 0, .string ByteArray.empty], 28, false, 5⟩) (b24, 0) [.int .i64 x18, .int .i64 x19, .int .i64 x20, .int .u8 x21, .string s22]) (b24, 1) (.int .i64 x30) ∧
   (x30 ≥ 0 →
    ∃ (x33 : Int),
    SH.has (SH.setl (SH.upd H b24 ⟨[.int .i64 0, .int .i64 0, .int .i64 0, .int .u8 0, .string ByteArray.empty], 28, false, 5⟩) (b24, 0) [.int .i64 x18, .int .i64 x19, .int .i64 x20, .int .u8 x21, .string s22]) (b24, 1) (.int .i64 x33) ∧
    (x33 < (l9.len : Int) →
     ladinglaw19_NetPlays.j1 F K R1 p8 l9 b24 (decide (x33 < (l9.len : Int))) 0 l10 x11 x12 (SH.setl (SH.upd H b24 ⟨[.int .i64 0, .int .i64 0, .int .i64 0, .int .u8 0, .string ByteArray.empty], 28, false, 5⟩) (b24, 0) [.int .i64 x18, .int .i64 x19, .int .i64 x20, .int .u8 x21, .string s22])
    ) ∧ (¬ (x33 < (l9.len : Int)) →
     ladinglaw19_NetPlays.j1 F K R1 p8 l9 b24 (decide (x33 < (l9.len : Int))) 9 l10 x11 x12 (SH.setl (SH.upd H b24 ⟨[.int .i64 0, .int .i64 0, .int .i64 0, .int .u8 0, .string ByteArray.empty], 28, false, 5⟩) (b24, 0) [.int .i64 x18, .int .i64 x19, .int .i64 x20, .int .u8 x21, .string s22])
    )
   ) ∧ (¬ (x30 ≥ 0) →
    ladinglaw19_NetPlays.j12 F K R1 p8 l9 b24 9 l10 x11 x12 (SH.setl (SH.upd H b24 ⟨[.int .i64 0, .int .i64 0, .int .i64 0, .int .u8 0, .string ByteArray.empty], 28, false, 5⟩) (b24, 0) [.int .i64 x18, .int .i64 x19, .int .i64 x20, .int .u8 x21, .string s22])
   )
  )
 ) ∧ (¬ (x12 < x11) →
  ∃ Hr, SH.le Hr H ∧ K true Hr
 )
def ladinglaw19_NetPlays.l1 (F : Nat) (K : Bool → SH → Prop) : Nat → Option (Nat × Nat) → Sl → Sl → Int → Int → SH → Prop
 | 0, _, _, _, _, _, _ => False
 | k + 1, p8, l9, l10, x11, x12, H => ladinglaw19_NetPlays.r1 F K (ladinglaw19_NetPlays.l1 F K k) p8 l9 l10 x11 x12 H
def ladinglaw19_NetPlays.wp (F : Nat) (l1 : Sl) (H : SH) (K : Bool → SH → Prop) : Prop :=
 ladinglaw19_awake.wp F  H (fun q2 H3 =>
  (q2 = true →
   ((l1.len : Int) > 120 →
    ∃ Hr, SH.le Hr H3 ∧ K true Hr
   ) ∧ (¬ ((l1.len : Int) > 120) →
    net_New.wp F  H3 (fun p6 H7 =>
     ladinglaw19_NetPlays.l1 F K F p6 Sl.nil l1 (l1.len : Int) 0 H7
    )
   )
  ) ∧ (¬ (q2 = true) →
   ∃ Hr, SH.le Hr H3 ∧ K false Hr
  )
 )
set_option maxHeartbeats 8000000 in
theorem ladinglaw19_NetPlays.sound (F : Nat) (l1 : Sl) (H : SH) (K : Bool → SH → Prop) (h : ladinglaw19_NetPlays.wp F l1 H K) : SCalls Tryd.prog 3 #[sv l1] H (fun v H' => ∃ (q921 : Bool), v = .bool q921 ∧ K q921 H') := by
 unfold ladinglaw19_NetPlays.wp at h
 refine SCalls.body Tryd.func3 rfl (Nat.le_of_ble_eq_true rfl) ?_
 refine SW.seq ?_
 refine SW.region ?_
 slimval (.bool false)
 refine SOps.nil ?_
 refine SW.seq ?_
 refine SW.seq ?_
 refine SW.region ?_
 refine SOps.enter rfl (wantN rfl) (fun _ => by kernel_rfl) (ladinglaw19_awake.sound F  H _ h) ?_
 clear h
 rintro v H3 ⟨q2, rfl, h⟩
 slimval (.bool (!q2))
 refine SOps.nil ?_
 by_cases c4 : q2 = true
 ·replace h := h.1 c4
  have dc4 : q2 = true := c4
  refine SW.cond_f (t := !q2) rfl (not_t dc4) ?_
  refine SW.skip ?_
  refine SW.seq ?_
  refine SW.seq ?_
  refine SW.region ?_
  slimval (sv l1)
  slimval (.int .i64 (l1.len : Int))
  slimval (.bool (decide ((l1.len : Int) > 120)))
  refine SOps.nil ?_
  by_cases c5 : (l1.len : Int) > 120
  ·replace h := h.1 c5
   have dc5 : (decide ((l1.len : Int) > 120)) = true := (decide_eq_true c5)
   refine SW.cond_t (t := decide ((l1.len : Int) > 120)) rfl dc5 ?_
   refine SW.seq ?_
   refine SW.region ?_
   slimval (.bool true)
   refine SOps.nil ?_
   obtain ⟨Hr, hr, h⟩ := h
   exact SW.ret (retQ.mk (.bool true) (res1 rfl rfl) hr ⟨true, rfl, h⟩)
  ·replace h := h.2 c5
   have dc5 : (decide ((l1.len : Int) > 120)) = false := (decide_eq_false c5)
   refine SW.cond_f (t := decide ((l1.len : Int) > 120)) rfl dc5 ?_
   refine SW.skip ?_
   refine SW.seq ?_
   refine SW.region ?_
   refine SOps.enter rfl (wantN rfl) (fun _ => by kernel_rfl) (net_New.sound F  H3 _ h) ?_
   clear h
   rintro v H7 ⟨p6, rfl, h⟩
   slimval (pv p6)
   refine SOps.nil ?_
   refine SW.seq ?_
   refine SW.region ?_
   slimval (sv Sl.nil)
   refine SOps.nil ?_
   refine SW.seq ?_
   refine SW.seq ?_
   refine SW.region ?_
   slimval (sv l1)
   slimval (.int .i64 (l1.len : Int))
   slimval (.int .i64 0)
   refine SOps.nil ?_
   refine SW.block ?_
   refine SW.loop (fun k1 fr H => ∃ (g : Fr) (p8 : Option (Nat × Nat)) (l9 : Sl) (l10 : Sl) (x11 : Int) (x12 : Int), fr = g.upds [(3, pv p8), (4, sv l9), (29, sv l10), (30, (.int .i64 x11 : Value)), (31, (.int .i64 x12 : Value))] ∧ ladinglaw19_NetPlays.l1 F K k1 p8 l9 l10 x11 x12 H) F ⟨_, p6, Sl.nil, l1, (l1.len : Int), 0, (Fr.upds_self _ _ ⟨rfl, rfl, rfl, rfl, rfl, trivial⟩), h⟩ ?_
   clear h
   rintro k1 fr H ⟨g, p8, l9, l10, x11, x12, rfl, h⟩
   cases k1 with
   | zero => exact h.elim
   | succ k1 =>
    replace h : ladinglaw19_NetPlays.r1 F K (ladinglaw19_NetPlays.l1 F K k1) p8 l9 l10 x11 x12 H := h
    unfold ladinglaw19_NetPlays.r1 at h
    refine SW.seq ?_
    refine SW.region ?_
    slimval (.bool (decide (x12 < x11)))
    refine SOps.nil ?_
    refine SW.seq ?_
    by_cases c13 : x12 < x11
    ·replace h := h.1 c13
     have dc13 : (decide (x12 < x11)) = true := (decide_eq_true c13)
     refine SW.cond_t (t := decide (x12 < x11)) rfl dc13 ?_
     refine SW.skip ?_
     refine SW.seq ?_
     refine SW.block ?_
     refine SW.seq ?_
     refine SW.region ?_
     obtain ⟨p14, c15, c16, c17, h⟩ := h
     refine SOps.val (v := pv (some (p14.1, (p14.2 + x12.toNat * 5)))) rfl (wantN rfl) (fun w => ev_iaddr rfl Tryd.underlying22 (size := 5) (by kernel_rfl) rfl rfl c15 c16 c17 w) ?_
     obtain ⟨x18, x19, x20, x21, s22, c23, h⟩ := h
     refine SOps.rd (v := .agg #[.int .i64 x18, .int .i64 x19, .int .i64 x20, .int .u8 x21, .string s22]) rfl (wantN rfl) (fun w hw => ev_loadN rfl (fun _ => by kernel_rfl) (size := 5) (by kernel_rfl) (p := (p14.1, (p14.2 + x12.toNat * 5))) rfl rfl c23 w hw) ?_
     refine SOps.alloc rfl rfl (wantN rfl) (z := .agg #[.int .i64 0, .int .i64 0, .int .i64 0, .int .u8 0, .string ByteArray.empty]) (by kernel_rfl) (fun b24 c25 => ?_)
     replace h := h b24 c25
     obtain ⟨c26, h⟩ := h
     refine SOps.storeL (p := (b24, 0)) (v := .agg #[.int .i64 x18, .int .i64 x19, .int .i64 x20, .int .u8 x21, .string s22]) (cs := [.int .i64 x18, .int .i64 x19, .int .i64 x20, .int .u8 x21, .string s22]) rfl rfl (wantN rfl) (size := 5) (by kernel_rfl) rfl rfl rfl rfl (by simp [Value.oneCell', errV_one, pv, sv]) c26 ?_
     refine SOps.nil ?_
     refine SW.seq ?_
     refine SW.seq ?_
     refine SW.region ?_
     slimval (pv (some (b24, 4)))
     obtain ⟨s27, c28, h⟩ := h
     refine SOps.rd (v := .string s27) rfl (wantN rfl) (fun w hw => ev_load1 rfl (fun _ => by kernel_rfl) (p := (b24, 4)) rfl c28 w hw) ?_
     slimval (.int .i64 (s27.size : Int))
     slimval (.bool (decide ((s27.size : Int) > 100)))
     refine SOps.nil ?_
     by_cases c29 : (s27.size : Int) > 100
     ·replace h := h.1 c29
      have dc29 : (decide ((s27.size : Int) > 100)) = true := (decide_eq_true c29)
      refine SW.cond_t (t := decide ((s27.size : Int) > 100)) rfl dc29 ?_
      refine SW.seq ?_
      refine SW.region ?_
      slimval (.bool true)
      refine SOps.nil ?_
      obtain ⟨Hr, hr, h⟩ := h
      exact SW.ret (retQ.mk (.bool true) (res1 rfl rfl) hr ⟨true, rfl, h⟩)
     ·replace h := h.2 c29
      have dc29 : (decide ((s27.size : Int) > 100)) = false := (decide_eq_false c29)
      refine SW.cond_f (t := decide ((s27.size : Int) > 100)) rfl dc29 ?_
      refine SW.skip ?_
      refine SW.seq ?_
      refine SW.region ?_
      slimval (pv (some (b24, 1)))
      obtain ⟨x30, c31, h⟩ := h
      refine SOps.rd (v := .int .i64 x30) rfl (wantN rfl) (fun w hw => ev_load1 rfl (fun _ => by kernel_rfl) (p := (b24, 1)) rfl c31 w hw) ?_
      slimval (.bool (decide (x30 ≥ 0)))
      slimval (.bool (decide (x30 ≥ 0)))
      by_cases c32 : x30 ≥ 0
      ·replace h := h.1 c32
       have dc32 : (decide (x30 ≥ 0)) = true := (decide_eq_true c32)
       refine SOps.val (v := pv (some (b24, 1))) rfl (wantY (c := decide (x30 ≥ 0)) rfl rfl rfl dc32) (fun _ => by kernel_rfl) ?_
       obtain ⟨x33, c34, h⟩ := h
       refine SOps.rd (v := .int .i64 x33) rfl (wantY (c := decide (x30 ≥ 0)) rfl rfl rfl dc32) (fun w hw => ev_load1 rfl (fun _ => by kernel_rfl) (p := (b24, 1)) rfl c34 w hw) ?_
       refine SOps.val (v := sv l9) rfl (wantY (c := decide (x30 ≥ 0)) rfl rfl rfl dc32) (fun _ => by kernel_rfl) ?_
       refine SOps.val (v := .int .i64 (l9.len : Int)) rfl (wantY (c := decide (x30 ≥ 0)) rfl rfl rfl dc32) (fun _ => by kernel_rfl) ?_
       refine SOps.val (v := .bool (decide (x33 < (l9.len : Int)))) rfl (wantY (c := decide (x30 ≥ 0)) rfl rfl rfl dc32) (fun _ => by kernel_rfl) ?_
       refine SOps.val (v := .bool (decide (x33 < (l9.len : Int)))) rfl (wantN rfl) (fun w => ev_pickT (v := .bool (decide (x33 < (l9.len : Int)))) rfl (t := decide (x30 ≥ 0)) rfl dc32 rfl w) ?_
       slimval (.bool (decide (x33 < (l9.len : Int))))
       refine SOps.nil ?_
       refine SW.seq ?_
       refine SW.region ?_
       slimval (.int .i64 9)
       refine SOps.nil ?_
       refine SW.seqJ (fun fr H => ∃ (g : Fr) (p36 : Option (Nat × Nat)) (l37 : Sl) (b38 : Nat) (q39 : Bool) (x40 : Int) (l41 : Sl) (x42 : Int) (x43 : Int), fr = g.upds [(3, pv p36), (4, sv l37), (6, pv (some (b38, 0))), (7, (.bool q39 : Value)), (8, (.int .i64 x40 : Value)), (29, sv l41), (30, (.int .i64 x42 : Value)), (31, (.int .i64 x43 : Value))] ∧ ladinglaw19_NetPlays.j1 F K (ladinglaw19_NetPlays.l1 F K k1) p36 l37 b38 q39 x40 l41 x42 x43 H) ?_ ?_
       ·clear h
        rintro fr H ⟨g, p36, l37, b38, q39, x40, l41, x42, x43, rfl, h⟩
        unfold ladinglaw19_NetPlays.j1 at h
        refine SW.seqJ (fun fr H => ∃ (g : Fr) (p515 : Option (Nat × Nat)) (l516 : Sl) (l517 : Sl) (x518 : Int) (x519 : Int), fr = g.upds [(3, pv p515), (4, sv l516), (29, sv l517), (30, (.int .i64 x518 : Value)), (31, (.int .i64 x519 : Value))] ∧ ladinglaw19_NetPlays.j2 F K (ladinglaw19_NetPlays.l1 F K k1) p515 l516 l517 x518 x519 H) ?_ ?_
        ·clear h
         rintro fr H ⟨g, p515, l516, l517, x518, x519, rfl, h⟩
         unfold ladinglaw19_NetPlays.j2 at h
         refine SW.seq ?_
         refine SW.region ?_
         slimval (pv p515)
         refine SOps.enter rfl (wantN rfl) (fun _ => by kernel_rfl) (net_Net_All.sound F p515 H _ h) ?_
         clear h
         rintro v H522 ⟨l521, rfl, h⟩
         slimval (sv l521)
         refine SOps.nil ?_
         refine SW.seq ?_
         refine SW.seq ?_
         refine SW.region ?_
         slimval (pv p515)
         refine SOps.enter rfl (wantN rfl) (fun _ => by kernel_rfl) (net_Net_Len.sound F p515 H522 _ h) ?_
         clear h
         rintro v H524 ⟨x523, rfl, h⟩
         slimval (sv l516)
         slimval (.int .i64 (l516.len : Int))
         slimval (.bool (x523 != (l516.len : Int)))
         slimval (.bool (x523 != (l516.len : Int)))
         by_cases c525 : x523 ≠ (l516.len : Int)
         ·replace h := h.1 c525
          have dc525 : (x523 != (l516.len : Int)) = true := (bne_iff_ne.mpr c525)
          refine SOps.off rfl (wantX (c := (x523 != (l516.len : Int))) rfl rfl rfl dc525) ?_
          refine SOps.off rfl (wantX (c := (x523 != (l516.len : Int))) rfl rfl rfl dc525) ?_
          refine SOps.off rfl (wantX (c := (x523 != (l516.len : Int))) rfl rfl rfl dc525) ?_
          refine SOps.off rfl (wantX (c := (x523 != (l516.len : Int))) rfl rfl rfl dc525) ?_
          refine SOps.off rfl (wantX (c := (x523 != (l516.len : Int))) rfl rfl rfl dc525) ?_
          refine SOps.val (v := .bool true) rfl (wantN rfl) (fun w => ev_pickT (v := .bool true) rfl (t := (x523 != (l516.len : Int))) rfl dc525 rfl w) ?_
          refine SOps.nil ?_
          refine SW.cond_t (t := true) rfl rfl ?_
          refine SW.seq ?_
          refine SW.region ?_
          slimval (.bool false)
          refine SOps.nil ?_
          obtain ⟨Hr, hr, h⟩ := h
          exact SW.ret (retQ.mk (.bool false) (res1 rfl rfl) hr ⟨false, rfl, h⟩)
         ·replace h := h.2 c525
          have dc525 : (x523 != (l516.len : Int)) = false := (by simpa using c525)
          refine SOps.val (v := sv l521) rfl (wantY (c := (x523 != (l516.len : Int))) rfl rfl rfl dc525) (fun _ => by kernel_rfl) ?_
          refine SOps.val (v := .int .i64 (l521.len : Int)) rfl (wantY (c := (x523 != (l516.len : Int))) rfl rfl rfl dc525) (fun _ => by kernel_rfl) ?_
          refine SOps.val (v := sv l516) rfl (wantY (c := (x523 != (l516.len : Int))) rfl rfl rfl dc525) (fun _ => by kernel_rfl) ?_
          refine SOps.val (v := .int .i64 (l516.len : Int)) rfl (wantY (c := (x523 != (l516.len : Int))) rfl rfl rfl dc525) (fun _ => by kernel_rfl) ?_
          refine SOps.val (v := .bool ((l521.len : Int) != (l516.len : Int))) rfl (wantY (c := (x523 != (l516.len : Int))) rfl rfl rfl dc525) (fun _ => by kernel_rfl) ?_
          refine SOps.val (v := .bool ((l521.len : Int) != (l516.len : Int))) rfl (wantN rfl) (fun w => ev_pickF (v := .bool ((l521.len : Int) != (l516.len : Int))) rfl (t := (x523 != (l516.len : Int))) rfl dc525 rfl w) ?_
          refine SOps.nil ?_
          by_cases c526 : (l521.len : Int) ≠ (l516.len : Int)
          ·replace h := h.1 c526
           have dc526 : ((l521.len : Int) != (l516.len : Int)) = true := (bne_iff_ne.mpr c526)
           refine SW.cond_t (t := ((l521.len : Int) != (l516.len : Int))) rfl dc526 ?_
           refine SW.seq ?_
           refine SW.region ?_
           slimval (.bool false)
           refine SOps.nil ?_
           obtain ⟨Hr, hr, h⟩ := h
           exact SW.ret (retQ.mk (.bool false) (res1 rfl rfl) hr ⟨false, rfl, h⟩)
          ·replace h := h.2 c526
           have dc526 : ((l521.len : Int) != (l516.len : Int)) = false := (by simpa using c526)
           refine SW.cond_f (t := ((l521.len : Int) != (l516.len : Int))) rfl dc526 ?_
           refine SW.skip ?_
           refine SW.seq ?_
           refine SW.region ?_
           slimval (sv l521)
           slimval (.int .i64 (l521.len : Int))
           slimval (.int .i64 0)
           refine SOps.nil ?_
           refine SW.block ?_
           refine SW.loop (fun k3 fr H => ∃ (g : Fr) (p527 : Option (Nat × Nat)) (l528 : Sl) (l529 : Sl) (x530 : Int) (x531 : Int) (l532 : Sl) (x533 : Int) (x534 : Int), fr = g.upds [(3, pv p527), (4, sv l528), (29, sv l529), (30, (.int .i64 x530 : Value)), (31, (.int .i64 x531 : Value)), (386, sv l532), (387, (.int .i64 x533 : Value)), (388, (.int .i64 x534 : Value))] ∧ ladinglaw19_NetPlays.l3 F K (ladinglaw19_NetPlays.l1 F K k1) k3 p527 l528 l529 x530 x531 l532 x533 x534 H) F ⟨_, p515, l516, l517, x518, x519, l521, (l521.len : Int), 0, (Fr.upds_self _ _ ⟨rfl, rfl, rfl, rfl, rfl, rfl, rfl, rfl, trivial⟩), h⟩ ?_
           clear h
           rintro k3 fr H ⟨g, p527, l528, l529, x530, x531, l532, x533, x534, rfl, h⟩
           cases k3 with
           | zero => exact h.elim
           | succ k3 =>
            replace h : ladinglaw19_NetPlays.r3 F K (ladinglaw19_NetPlays.l1 F K k1) (ladinglaw19_NetPlays.l3 F K (ladinglaw19_NetPlays.l1 F K k1) k3) p527 l528 l529 x530 x531 l532 x533 x534 H := h
            unfold ladinglaw19_NetPlays.r3 at h
            refine SW.seq ?_
            refine SW.region ?_
            slimval (.bool (decide (x534 < x533)))
            refine SOps.nil ?_
            refine SW.seq ?_
            by_cases c535 : x534 < x533
            ·replace h := h.1 c535
             have dc535 : (decide (x534 < x533)) = true := (decide_eq_true c535)
             refine SW.cond_t (t := decide (x534 < x533)) rfl dc535 ?_
             refine SW.skip ?_
             refine SW.seq ?_
             refine SW.block ?_
             refine SW.seq ?_
             refine SW.region ?_
             slimval (.int .i64 x534)
             obtain ⟨p536, c537, c538, c539, h⟩ := h
             refine SOps.val (v := pv (some (p536.1, (p536.2 + x534.toNat * 3)))) rfl (wantN rfl) (fun w => ev_iaddr rfl Tryd.underlying44 (size := 3) (by kernel_rfl) rfl rfl c537 c538 c539 w) ?_
             obtain ⟨x540, x541, s542, c543, h⟩ := h
             refine SOps.rd (v := .agg #[.int .i64 x540, .int .i64 x541, .string s542]) rfl (wantN rfl) (fun w hw => ev_loadN rfl (fun _ => by kernel_rfl) (size := 3) (by kernel_rfl) (p := (p536.1, (p536.2 + x534.toNat * 3))) rfl rfl c543 w hw) ?_
             refine SOps.alloc rfl rfl (wantN rfl) (z := .agg #[.int .i64 0, .int .i64 0, .string ByteArray.empty]) (by kernel_rfl) (fun b544 c545 => ?_)
             replace h := h b544 c545
             slimval (.int .i64 x534)
             obtain ⟨c546, h⟩ := h
             refine SOps.storeL (p := (b544, 0)) (v := .agg #[.int .i64 x540, .int .i64 x541, .string s542]) (cs := [.int .i64 x540, .int .i64 x541, .string s542]) rfl rfl (wantN rfl) (size := 3) (by kernel_rfl) rfl rfl rfl rfl (by simp [Value.oneCell', errV_one, pv, sv]) c546 ?_
             refine SOps.nil ?_
             refine SW.seq ?_
             refine SW.draw (by kernel_rfl) (by kernel_rfl) ?_
             obtain ⟨x547, x548, s549, c550, h⟩ := h
             refine SQ.rd (v := .agg #[.int .i64 x547, .int .i64 x548, .string s549]) rfl (wantN rfl) (fun w hw => ev_loadN rfl (fun _ => by kernel_rfl) (size := 3) (by kernel_rfl) (p := (b544, 0)) rfl rfl c550 w hw) ?_
             refine SQ.val (v := sv l528) rfl (wantN rfl) (fun _ => by kernel_rfl) ?_
             refine SQ.val (v := .int .i64 x534) rfl (wantN rfl) (fun _ => by kernel_rfl) ?_
             obtain ⟨p551, c552, c553, c554, h⟩ := h
             refine SQ.val (v := pv (some (p551.1, (p551.2 + x534.toNat * 4)))) rfl (wantN rfl) (fun w => ev_iaddr rfl Tryd.underlying26 (size := 4) (by kernel_rfl) rfl rfl c552 c553 c554 w) ?_
             refine SQ.val (v := pv (some (p551.1, (p551.2 + x534.toNat * 4)))) rfl (wantN rfl) (fun _ => by kernel_rfl) ?_
             obtain ⟨x555, x556, s557, c558, h⟩ := h
             refine SQ.rd (v := .agg #[.int .i64 x555, .int .i64 x556, .string s557]) rfl (wantN rfl) (fun w hw => ev_loadN rfl (fun _ => by kernel_rfl) (size := 3) (by kernel_rfl) (p := (p551.1, (p551.2 + x534.toNat * 4))) rfl rfl c558 w hw) ?_
             refine SQ.val (v := .bool (!decide (x547 = x555 ∧ x548 = x556 ∧ s549 = s557))) rfl (wantN rfl) (fun w => ev_pktNe rfl rfl rfl w) ?_
             refine SQ.nil ?_
             by_cases c559 : (x547 = x555 ∧ x548 = x556 ∧ s549 = s557)
             ·replace h := h.1 c559
              have dc559 : (decide (x547 = x555 ∧ x548 = x556 ∧ s549 = s557)) = true := (decide_eq_true c559)
              refine SW.cond_f (t := !decide (x547 = x555 ∧ x548 = x556 ∧ s549 = s557)) rfl (not_t dc559) ?_
              refine SW.skip ?_
              refine SW.region ?_
              slimval (.int .i64 (w64 (x534 + 1)))
              slimval (.int .i64 (w64 (x534 + 1)))
              refine SOps.nil ?_
              exact ⟨k3, Nat.lt_succ_self k3, _, p527, l528, l529, x530, x531, l532, x533, w64 (x534 + 1), (Fr.upds_self _ _ ⟨rfl, rfl, rfl, rfl, rfl, rfl, rfl, rfl, trivial⟩), h⟩
             ·replace h := h.2 c559
              have dc559 : (decide (x547 = x555 ∧ x548 = x556 ∧ s549 = s557)) = false := (decide_eq_false c559)
              refine SW.cond_t (t := !decide (x547 = x555 ∧ x548 = x556 ∧ s549 = s557)) rfl (not_f dc559) ?_
              refine SW.seq ?_
              refine SW.region ?_
              slimval (.bool false)
              refine SOps.nil ?_
              obtain ⟨Hr, hr, h⟩ := h
              exact SW.ret (retQ.mk (.bool false) (res1 rfl rfl) hr ⟨false, rfl, h⟩)
            ·replace h := h.2 c535
             have dc535 : (decide (x534 < x533)) = false := (decide_eq_false c535)
             refine SW.cond_f (t := decide (x534 < x533)) rfl dc535 ?_
             refine SW.exit ?_
             refine SW.region ?_
             slimval (.int .i64 (w64 (x531 + 1)))
             slimval (.int .i64 (w64 (x531 + 1)))
             refine SOps.nil ?_
             exact ⟨k1, Nat.lt_succ_self k1, _, p527, l528, l529, x530, w64 (x531 + 1), (Fr.upds_self _ _ ⟨rfl, rfl, rfl, rfl, rfl, trivial⟩), h⟩
        ·skip
         refine SW.seq ?_
         refine SW.region ?_
         slimval (pv (some (b38, 0)))
         obtain ⟨x44, c45, h⟩ := h
         refine SOps.rd (v := .int .i64 x44) rfl (wantN rfl) (fun w hw => ev_load1 rfl (fun _ => by kernel_rfl) (p := (b38, 0)) rfl c45 w hw) ?_
         refine SOps.nil ?_
         refine SW.blockJ (fun fr H => ∃ (g : Fr) (p92 : Option (Nat × Nat)) (l93 : Sl) (l94 : Sl) (x95 : Int) (x96 : Int), fr = g.upds [(3, pv p92), (4, sv l93), (29, sv l94), (30, (.int .i64 x95 : Value)), (31, (.int .i64 x96 : Value))] ∧ ladinglaw19_NetPlays.j3 F K (ladinglaw19_NetPlays.l1 F K k1) p92 l93 l94 x95 x96 H) ?_ ?_
         ·clear h
          rintro fr H ⟨g, p92, l93, l94, x95, x96, rfl, h⟩
          unfold ladinglaw19_NetPlays.j3 at h
          exact ⟨_, p92, l93, l94, x95, x96, Fr.upds_self _ _ ⟨rfl, rfl, rfl, rfl, rfl, trivial⟩, h⟩
         ·skip
          refine SW.seq ?_
          refine SW.region ?_
          slimval (.bool (x44 == 0))
          slimval (.bool (x44 == 0))
          refine SOps.nil ?_
          by_cases c46 : x44 = 0
          ·replace h := h.1 c46
           have dc46 : (x44 == 0) = true := (beq_iff_eq.mpr c46)
           refine SW.cond_t (t := (x44 == 0)) rfl dc46 ?_
           refine SW.seq ?_
           refine SW.region ?_
           slimval (.int .i64 0)
           refine SOps.nil ?_
           refine SW.seqJ (fun fr H => ∃ (g : Fr) (p50 : Option (Nat × Nat)) (l51 : Sl) (b52 : Nat) (x53 : Int) (l54 : Sl) (x55 : Int) (x56 : Int), fr = g.upds [(3, pv p50), (4, sv l51), (6, pv (some (b52, 0))), (9, (.int .i64 x53 : Value)), (29, sv l54), (30, (.int .i64 x55 : Value)), (31, (.int .i64 x56 : Value))] ∧ ladinglaw19_NetPlays.j4 F K (ladinglaw19_NetPlays.l1 F K k1) p50 l51 b52 x53 l54 x55 x56 H) ?_ ?_
           ·clear h
            rintro fr H ⟨g, p50, l51, b52, x53, l54, x55, x56, rfl, h⟩
            unfold ladinglaw19_NetPlays.j4 at h
            refine SW.seq ?_
            refine SW.seq ?_
            refine SW.region ?_
            slimval (pv p50)
            slimval (pv (some (b52, 1)))
            obtain ⟨x71, c72, h⟩ := h
            refine SOps.rd (v := .int .i64 x71) rfl (wantN rfl) (fun w hw => ev_load1 rfl (fun _ => by kernel_rfl) (p := (b52, 1)) rfl c72 w hw) ?_
            slimval (pv (some (b52, 2)))
            obtain ⟨x73, c74, h⟩ := h
            refine SOps.rd (v := .int .i64 x73) rfl (wantN rfl) (fun w hw => ev_load1 rfl (fun _ => by kernel_rfl) (p := (b52, 2)) rfl c74 w hw) ?_
            slimval (pv (some (b52, 4)))
            obtain ⟨s75, c76, h⟩ := h
            refine SOps.rd (v := .string s75) rfl (wantN rfl) (fun w hw => ev_load1 rfl (fun _ => by kernel_rfl) (p := (b52, 4)) rfl c76 w hw) ?_
            refine SOps.enter rfl (wantN rfl) (fun _ => by kernel_rfl) (net_Net_Send.sound F p50 x71 x73 s75 H _ h) ?_
            clear h
            rintro v H78 ⟨e77, rfl, h⟩
            refine SOps.enter rfl (wantN rfl) (fun _ => by kernel_rfl) (api_Code.sound F e77 H78 _ h) ?_
            clear h
            rintro v H80 ⟨x79, rfl, h⟩
            slimval (.int .i64 x53)
            slimval (.bool (x79 != x53))
            refine SOps.nil ?_
            by_cases c81 : x79 ≠ x53
            ·replace h := h.1 c81
             have dc81 : (x79 != x53) = true := (bne_iff_ne.mpr c81)
             refine SW.cond_t (t := (x79 != x53)) rfl dc81 ?_
             refine SW.seq ?_
             refine SW.region ?_
             slimval (.bool false)
             refine SOps.nil ?_
             obtain ⟨Hr, hr, h⟩ := h
             exact SW.ret (retQ.mk (.bool false) (res1 rfl rfl) hr ⟨false, rfl, h⟩)
            ·replace h := h.2 c81
             have dc81 : (x79 != x53) = false := (by simpa using c81)
             refine SW.cond_f (t := (x79 != x53)) rfl dc81 ?_
             refine SW.skip ?_
             refine SW.seq ?_
             refine SW.region ?_
             slimval (.int .i64 x53)
             slimval (.bool (x53 == 0))
             refine SOps.nil ?_
             by_cases c82 : x53 = 0
             ·replace h := h.1 c82
              have dc82 : (x53 == 0) = true := (beq_iff_eq.mpr c82)
              refine SW.cond_t (t := (x53 == 0)) rfl dc82 ?_
              refine SW.region ?_
              slimval (sv l51)
              slimval (pv (some (b52, 1)))
              obtain ⟨x83, c84, h⟩ := h
              refine SOps.rd (v := .int .i64 x83) rfl (wantN rfl) (fun w hw => ev_load1 rfl (fun _ => by kernel_rfl) (p := (b52, 1)) rfl c84 w hw) ?_
              slimval (pv (some (b52, 2)))
              obtain ⟨x85, c86, h⟩ := h
              refine SOps.rd (v := .int .i64 x85) rfl (wantN rfl) (fun w hw => ev_load1 rfl (fun _ => by kernel_rfl) (p := (b52, 2)) rfl c86 w hw) ?_
              slimval (pv (some (b52, 4)))
              obtain ⟨s87, c88, h⟩ := h
              refine SOps.rd (v := .string s87) rfl (wantN rfl) (fun w hw => ev_load1 rfl (fun _ => by kernel_rfl) (p := (b52, 4)) rfl c88 w hw) ?_
              slimval (.agg #[.int .i64 x83, .int .i64 x85, .string s87])
              slimval (.agg #[.int .i64 x83, .int .i64 x85, .string s87, .bool false])
              refine SOps.litAppend (E := 36) (z := .agg #[.int .i64 0, .int .i64 0, .string ByteArray.empty, .bool false]) (size := 4) (bytes := 40) (cs := #[.int .i64 x83, .int .i64 x85, .string s87, .bool false]) rfl rfl (wantN rfl) (fun _ => by kernel_rfl) rfl rfl (fun _ => wantN rfl) Tryd.underlying26 Tryd.underlying26 (by kernel_rfl) rfl rfl (fun _ => rfl) (AppendQ.mono h ?_)
              clear h
              intro l89 H90 h b91
              slimval (sv l89)
              refine SOps.nil ?_
              exact ⟨_, p50, l89, l54, x55, x56, Fr.upds_self _ _ ⟨rfl, rfl, rfl, rfl, rfl, trivial⟩, h⟩
             ·replace h := h.2 c82
              have dc82 : (x53 == 0) = false := (beq_eq_false_iff_ne.mpr c82)
              refine SW.cond_f (t := (x53 == 0)) rfl dc82 ?_
              refine SW.skip ?_
              exact ⟨_, p50, l51, l54, x55, x56, Fr.upds_self _ _ ⟨rfl, rfl, rfl, rfl, rfl, trivial⟩, h⟩
           ·skip
            refine SW.seq ?_
            refine SW.region ?_
            slimval (pv (some (b38, 1)))
            obtain ⟨x47, c48, h⟩ := h
            refine SOps.rd (v := .int .i64 x47) rfl (wantN rfl) (fun w hw => ev_load1 rfl (fun _ => by kernel_rfl) (p := (b38, 1)) rfl c48 w hw) ?_
            slimval (.bool (decide (x47 < 0)))
            slimval (.bool (decide (x47 < 0)))
            by_cases c49 : x47 < 0
            ·replace h := h.1 c49
             have dc49 : (decide (x47 < 0)) = true := (decide_eq_true c49)
             refine SOps.off rfl (wantX (c := decide (x47 < 0)) rfl rfl rfl dc49) ?_
             refine SOps.off rfl (wantX (c := decide (x47 < 0)) rfl rfl rfl dc49) ?_
             refine SOps.off rfl (wantX (c := decide (x47 < 0)) rfl rfl rfl dc49) ?_
             refine SOps.val (v := .bool true) rfl (wantN rfl) (fun w => ev_pickT (v := .bool true) rfl (t := decide (x47 < 0)) rfl dc49 rfl w) ?_
             slimval (.bool true)
             refine SOps.off rfl (wantX (c := true) rfl rfl rfl rfl) ?_
             refine SOps.off rfl (wantX (c := true) rfl rfl rfl rfl) ?_
             refine SOps.off rfl (wantX (c := true) rfl rfl rfl rfl) ?_
             refine SOps.val (v := .bool true) rfl (wantN rfl) (fun w => ev_pickT (v := .bool true) rfl (t := true) rfl rfl rfl w) ?_
             slimval (.bool true)
             refine SOps.off rfl (wantX (c := true) rfl rfl rfl rfl) ?_
             refine SOps.off rfl (wantX (c := true) rfl rfl rfl rfl) ?_
             refine SOps.off rfl (wantX (c := true) rfl rfl rfl rfl) ?_
             refine SOps.val (v := .bool true) rfl (wantN rfl) (fun w => ev_pickT (v := .bool true) rfl (t := true) rfl rfl rfl w) ?_
             slimval (.bool true)
             refine SOps.off rfl (wantX (c := true) rfl rfl rfl rfl) ?_
             refine SOps.off rfl (wantX (c := true) rfl rfl rfl rfl) ?_
             refine SOps.off rfl (wantX (c := true) rfl rfl rfl rfl) ?_
             refine SOps.off rfl (wantX (c := true) rfl rfl rfl rfl) ?_
             refine SOps.off rfl (wantX (c := true) rfl rfl rfl rfl) ?_
             refine SOps.val (v := .bool true) rfl (wantN rfl) (fun w => ev_pickT (v := .bool true) rfl (t := true) rfl rfl rfl w) ?_
             refine SOps.nil ?_
             refine SW.cond_t (t := true) rfl rfl ?_
             refine SW.region ?_
             slimval (.int .i64 1)
             refine SOps.nil ?_
             exact ⟨_, p36, l37, b38, 1, l41, x42, x43, Fr.upds_self _ _ ⟨rfl, rfl, rfl, rfl, rfl, rfl, rfl, trivial⟩, h⟩
            ·replace h := h.2 c49
             have dc49 : (decide (x47 < 0)) = false := (decide_eq_false c49)
             refine SOps.val (v := pv (some (b38, 1))) rfl (wantY (c := decide (x47 < 0)) rfl rfl rfl dc49) (fun _ => by kernel_rfl) ?_
             obtain ⟨x57, c58, h⟩ := h
             refine SOps.rd (v := .int .i64 x57) rfl (wantY (c := decide (x47 < 0)) rfl rfl rfl dc49) (fun w hw => ev_load1 rfl (fun _ => by kernel_rfl) (p := (b38, 1)) rfl c58 w hw) ?_
             refine SOps.val (v := .bool (decide (x57 > 5))) rfl (wantY (c := decide (x47 < 0)) rfl rfl rfl dc49) (fun _ => by kernel_rfl) ?_
             refine SOps.val (v := .bool (decide (x57 > 5))) rfl (wantN rfl) (fun w => ev_pickF (v := .bool (decide (x57 > 5))) rfl (t := decide (x47 < 0)) rfl dc49 rfl w) ?_
             slimval (.bool (decide (x57 > 5)))
             by_cases c59 : x57 > 5
             ·replace h := h.1 c59
              have dc59 : (decide (x57 > 5)) = true := (decide_eq_true c59)
              refine SOps.off rfl (wantX (c := decide (x57 > 5)) rfl rfl rfl dc59) ?_
              refine SOps.off rfl (wantX (c := decide (x57 > 5)) rfl rfl rfl dc59) ?_
              refine SOps.off rfl (wantX (c := decide (x57 > 5)) rfl rfl rfl dc59) ?_
              refine SOps.val (v := .bool true) rfl (wantN rfl) (fun w => ev_pickT (v := .bool true) rfl (t := decide (x57 > 5)) rfl dc59 rfl w) ?_
              slimval (.bool true)
              refine SOps.off rfl (wantX (c := true) rfl rfl rfl rfl) ?_
              refine SOps.off rfl (wantX (c := true) rfl rfl rfl rfl) ?_
              refine SOps.off rfl (wantX (c := true) rfl rfl rfl rfl) ?_
              refine SOps.val (v := .bool true) rfl (wantN rfl) (fun w => ev_pickT (v := .bool true) rfl (t := true) rfl rfl rfl w) ?_
              slimval (.bool true)
              refine SOps.off rfl (wantX (c := true) rfl rfl rfl rfl) ?_
              refine SOps.off rfl (wantX (c := true) rfl rfl rfl rfl) ?_
              refine SOps.off rfl (wantX (c := true) rfl rfl rfl rfl) ?_
              refine SOps.off rfl (wantX (c := true) rfl rfl rfl rfl) ?_
              refine SOps.off rfl (wantX (c := true) rfl rfl rfl rfl) ?_
              refine SOps.val (v := .bool true) rfl (wantN rfl) (fun w => ev_pickT (v := .bool true) rfl (t := true) rfl rfl rfl w) ?_
              refine SOps.nil ?_
              refine SW.cond_t (t := true) rfl rfl ?_
              refine SW.region ?_
              slimval (.int .i64 1)
              refine SOps.nil ?_
              exact ⟨_, p36, l37, b38, 1, l41, x42, x43, Fr.upds_self _ _ ⟨rfl, rfl, rfl, rfl, rfl, rfl, rfl, trivial⟩, h⟩
             ·replace h := h.2 c59
              have dc59 : (decide (x57 > 5)) = false := (decide_eq_false c59)
              refine SOps.val (v := pv (some (b38, 2))) rfl (wantY (c := decide (x57 > 5)) rfl rfl rfl dc59) (fun _ => by kernel_rfl) ?_
              obtain ⟨x60, c61, h⟩ := h
              refine SOps.rd (v := .int .i64 x60) rfl (wantY (c := decide (x57 > 5)) rfl rfl rfl dc59) (fun w hw => ev_load1 rfl (fun _ => by kernel_rfl) (p := (b38, 2)) rfl c61 w hw) ?_
              refine SOps.val (v := .bool (decide (x60 < 0))) rfl (wantY (c := decide (x57 > 5)) rfl rfl rfl dc59) (fun _ => by kernel_rfl) ?_
              refine SOps.val (v := .bool (decide (x60 < 0))) rfl (wantN rfl) (fun w => ev_pickF (v := .bool (decide (x60 < 0))) rfl (t := decide (x57 > 5)) rfl dc59 rfl w) ?_
              slimval (.bool (decide (x60 < 0)))
              by_cases c62 : x60 < 0
              ·replace h := h.1 c62
               have dc62 : (decide (x60 < 0)) = true := (decide_eq_true c62)
               refine SOps.off rfl (wantX (c := decide (x60 < 0)) rfl rfl rfl dc62) ?_
               refine SOps.off rfl (wantX (c := decide (x60 < 0)) rfl rfl rfl dc62) ?_
               refine SOps.off rfl (wantX (c := decide (x60 < 0)) rfl rfl rfl dc62) ?_
               refine SOps.val (v := .bool true) rfl (wantN rfl) (fun w => ev_pickT (v := .bool true) rfl (t := decide (x60 < 0)) rfl dc62 rfl w) ?_
               slimval (.bool true)
               refine SOps.off rfl (wantX (c := true) rfl rfl rfl rfl) ?_
               refine SOps.off rfl (wantX (c := true) rfl rfl rfl rfl) ?_
               refine SOps.off rfl (wantX (c := true) rfl rfl rfl rfl) ?_
               refine SOps.off rfl (wantX (c := true) rfl rfl rfl rfl) ?_
               refine SOps.off rfl (wantX (c := true) rfl rfl rfl rfl) ?_
               refine SOps.val (v := .bool true) rfl (wantN rfl) (fun w => ev_pickT (v := .bool true) rfl (t := true) rfl rfl rfl w) ?_
               refine SOps.nil ?_
               refine SW.cond_t (t := true) rfl rfl ?_
               refine SW.region ?_
               slimval (.int .i64 1)
               refine SOps.nil ?_
               exact ⟨_, p36, l37, b38, 1, l41, x42, x43, Fr.upds_self _ _ ⟨rfl, rfl, rfl, rfl, rfl, rfl, rfl, trivial⟩, h⟩
              ·replace h := h.2 c62
               have dc62 : (decide (x60 < 0)) = false := (decide_eq_false c62)
               refine SOps.val (v := pv (some (b38, 2))) rfl (wantY (c := decide (x60 < 0)) rfl rfl rfl dc62) (fun _ => by kernel_rfl) ?_
               obtain ⟨x63, c64, h⟩ := h
               refine SOps.rd (v := .int .i64 x63) rfl (wantY (c := decide (x60 < 0)) rfl rfl rfl dc62) (fun w hw => ev_load1 rfl (fun _ => by kernel_rfl) (p := (b38, 2)) rfl c64 w hw) ?_
               refine SOps.val (v := .bool (decide (x63 > 4))) rfl (wantY (c := decide (x60 < 0)) rfl rfl rfl dc62) (fun _ => by kernel_rfl) ?_
               refine SOps.val (v := .bool (decide (x63 > 4))) rfl (wantN rfl) (fun w => ev_pickF (v := .bool (decide (x63 > 4))) rfl (t := decide (x60 < 0)) rfl dc62 rfl w) ?_
               slimval (.bool (decide (x63 > 4)))
               by_cases c65 : x63 > 4
               ·replace h := h.1 c65
                have dc65 : (decide (x63 > 4)) = true := (decide_eq_true c65)
                refine SOps.off rfl (wantX (c := decide (x63 > 4)) rfl rfl rfl dc65) ?_
                refine SOps.off rfl (wantX (c := decide (x63 > 4)) rfl rfl rfl dc65) ?_
                refine SOps.off rfl (wantX (c := decide (x63 > 4)) rfl rfl rfl dc65) ?_
                refine SOps.off rfl (wantX (c := decide (x63 > 4)) rfl rfl rfl dc65) ?_
                refine SOps.off rfl (wantX (c := decide (x63 > 4)) rfl rfl rfl dc65) ?_
                refine SOps.val (v := .bool true) rfl (wantN rfl) (fun w => ev_pickT (v := .bool true) rfl (t := decide (x63 > 4)) rfl dc65 rfl w) ?_
                refine SOps.nil ?_
                refine SW.cond_t (t := true) rfl rfl ?_
                refine SW.region ?_
                slimval (.int .i64 1)
                refine SOps.nil ?_
                exact ⟨_, p36, l37, b38, 1, l41, x42, x43, Fr.upds_self _ _ ⟨rfl, rfl, rfl, rfl, rfl, rfl, rfl, trivial⟩, h⟩
               ·replace h := h.2 c65
                have dc65 : (decide (x63 > 4)) = false := (decide_eq_false c65)
                refine SOps.val (v := pv (some (b38, 1))) rfl (wantY (c := decide (x63 > 4)) rfl rfl rfl dc65) (fun _ => by kernel_rfl) ?_
                obtain ⟨x66, c67, h⟩ := h
                refine SOps.rd (v := .int .i64 x66) rfl (wantY (c := decide (x63 > 4)) rfl rfl rfl dc65) (fun w hw => ev_load1 rfl (fun _ => by kernel_rfl) (p := (b38, 1)) rfl c67 w hw) ?_
                refine SOps.val (v := pv (some (b38, 2))) rfl (wantY (c := decide (x63 > 4)) rfl rfl rfl dc65) (fun _ => by kernel_rfl) ?_
                obtain ⟨x68, c69, h⟩ := h
                refine SOps.rd (v := .int .i64 x68) rfl (wantY (c := decide (x63 > 4)) rfl rfl rfl dc65) (fun w hw => ev_load1 rfl (fun _ => by kernel_rfl) (p := (b38, 2)) rfl c69 w hw) ?_
                refine SOps.val (v := .bool (x66 == x68)) rfl (wantY (c := decide (x63 > 4)) rfl rfl rfl dc65) (fun _ => by kernel_rfl) ?_
                refine SOps.val (v := .bool (x66 == x68)) rfl (wantN rfl) (fun w => ev_pickF (v := .bool (x66 == x68)) rfl (t := decide (x63 > 4)) rfl dc65 rfl w) ?_
                refine SOps.nil ?_
                by_cases c70 : x66 = x68
                ·replace h := h.1 c70
                 have dc70 : (x66 == x68) = true := (beq_iff_eq.mpr c70)
                 refine SW.cond_t (t := (x66 == x68)) rfl dc70 ?_
                 refine SW.region ?_
                 slimval (.int .i64 1)
                 refine SOps.nil ?_
                 exact ⟨_, p36, l37, b38, 1, l41, x42, x43, Fr.upds_self _ _ ⟨rfl, rfl, rfl, rfl, rfl, rfl, rfl, trivial⟩, h⟩
                ·replace h := h.2 c70
                 have dc70 : (x66 == x68) = false := (beq_eq_false_iff_ne.mpr c70)
                 refine SW.cond_f (t := (x66 == x68)) rfl dc70 ?_
                 refine SW.skip ?_
                 exact ⟨_, p36, l37, b38, 0, l41, x42, x43, Fr.upds_self _ _ ⟨rfl, rfl, rfl, rfl, rfl, rfl, rfl, trivial⟩, h⟩
          ·replace h := h.2 c46
           have dc46 : (x44 == 0) = false := (beq_eq_false_iff_ne.mpr c46)
           refine SW.cond_f (t := (x44 == 0)) rfl dc46 ?_
           refine SW.seqJ (fun fr H => ∃ (g : Fr) (p99 : Option (Nat × Nat)) (l100 : Sl) (b101 : Nat) (q102 : Bool) (x103 : Int) (l104 : Sl) (x105 : Int) (x106 : Int) (x107 : Int) (q108 : Bool), fr = g.upds [(3, pv p99), (4, sv l100), (6, pv (some (b101, 0))), (7, (.bool q102 : Value)), (8, (.int .i64 x103 : Value)), (29, sv l104), (30, (.int .i64 x105 : Value)), (31, (.int .i64 x106 : Value)), (51, (.int .i64 x107 : Value)), (103, (.bool q108 : Value))] ∧ ladinglaw19_NetPlays.j5 F K (ladinglaw19_NetPlays.l1 F K k1) p99 l100 b101 q102 x103 l104 x105 x106 x107 q108 H) ?_ ?_
           ·clear h
            rintro fr H ⟨g, p99, l100, b101, q102, x103, l104, x105, x106, x107, q108, rfl, h⟩
            unfold ladinglaw19_NetPlays.j5 at h
            by_cases c109 : q108 = true
            ·replace h := h.1 c109
             have dc109 : q108 = true := c109
             refine SW.cond_t (t := q108) rfl dc109 ?_
             refine SW.seq ?_
             refine SW.region ?_
             refine SOps.alloc rfl rfl (wantN rfl) (z := .agg #[.int .i64 0, .int .i64 0, .string ByteArray.empty]) (by kernel_rfl) (fun b110 c111 => ?_)
             replace h := h b110 c111
             refine SOps.nil ?_
             refine SW.seq ?_
             refine SW.region ?_
             slimval (errV none)
             refine SOps.nil ?_
             refine SW.seqJ (fun fr H => ∃ (g : Fr) (p123 : Option (Nat × Nat)) (l124 : Sl) (b125 : Nat) (q126 : Bool) (x127 : Int) (b128 : Nat) (e129 : Option EV) (l130 : Sl) (x131 : Int) (x132 : Int), fr = g.upds [(3, pv p123), (4, sv l124), (6, pv (some (b125, 0))), (7, (.bool q126 : Value)), (8, (.int .i64 x127 : Value)), (10, pv (some (b128, 0))), (11, errV e129), (29, sv l130), (30, (.int .i64 x131 : Value)), (31, (.int .i64 x132 : Value))] ∧ ladinglaw19_NetPlays.j6 F K (ladinglaw19_NetPlays.l1 F K k1) p123 l124 b125 q126 x127 b128 e129 l130 x131 x132 H) ?_ ?_
             ·clear h
              rintro fr H ⟨g, p123, l124, b125, q126, x127, b128, e129, l130, x131, x132, rfl, h⟩
              unfold ladinglaw19_NetPlays.j6 at h
              refine SW.seqJ (fun fr H => ∃ (g : Fr) (p160 : Option (Nat × Nat)) (l161 : Sl) (b162 : Nat) (q163 : Bool) (l164 : Sl) (x165 : Int) (x166 : Int), fr = g.upds [(3, pv p160), (4, sv l161), (6, pv (some (b162, 0))), (7, (.bool q163 : Value)), (29, sv l164), (30, (.int .i64 x165 : Value)), (31, (.int .i64 x166 : Value))] ∧ ladinglaw19_NetPlays.j7 F K (ladinglaw19_NetPlays.l1 F K k1) p160 l161 b162 q163 l164 x165 x166 H) ?_ ?_
              ·clear h
               rintro fr H ⟨g, p160, l161, b162, q163, l164, x165, x166, rfl, h⟩
               unfold ladinglaw19_NetPlays.j7 at h
               refine SW.seq ?_
               refine SW.region ?_
               slimval (.bool q163)
               slimval (.bool q163)
               by_cases c172 : q163 = true
               ·replace h := h.1 c172
                have dc172 : q163 = true := c172
                refine SOps.val (v := pv (some (b162, 0))) rfl (wantY (c := q163) rfl rfl rfl dc172) (fun _ => by kernel_rfl) ?_
                obtain ⟨x173, c174, h⟩ := h
                refine SOps.rd (v := .int .i64 x173) rfl (wantY (c := q163) rfl rfl rfl dc172) (fun w hw => ev_load1 rfl (fun _ => by kernel_rfl) (p := (b162, 0)) rfl c174 w hw) ?_
                refine SOps.val (v := .bool (x173 == 1)) rfl (wantY (c := q163) rfl rfl rfl dc172) (fun _ => by kernel_rfl) ?_
                refine SOps.val (v := .bool (x173 == 1)) rfl (wantN rfl) (fun w => ev_pickT (v := .bool (x173 == 1)) rfl (t := q163) rfl dc172 rfl w) ?_
                refine SOps.nil ?_
                by_cases c175 : x173 = 1
                ·replace h := h.1 c175
                 have dc175 : (x173 == 1) = true := (beq_iff_eq.mpr c175)
                 refine SW.cond_t (t := (x173 == 1)) rfl dc175 ?_
                 obtain ⟨H176, c177, h⟩ := h
                 obtain ⟨x186, c187, h⟩ := h
                 obtain ⟨c188, c189, c190, h⟩ := h
                 obtain ⟨x191, c192, h⟩ := h
                 obtain ⟨c193, c194, c195, h⟩ := h
                 obtain ⟨w203, c204, h⟩ := h
                 obtain ⟨R178, m179, c198, k180⟩ := AppendQ.ex2 (l := fun b184 => (⟨some (b184, 0), 0, 0⟩ : Sl)) h
                 refine SW.drawW [] [.fresh 0 (fun b c => sv ⟨some (b, 0), 0, 0⟩) (fun c => (⟨[], 36, false, 0⟩ : AO)) (fun _ => True), .val (sv l161), .val (pv (some (b162, 1))), .val (.int .i64 x186), .val (sv (Sl.sub 4 l161 (0 : Int).toNat x186.toNat l161.cap)), .rel (fun H9 v9 T9 H8 => ∃ (l196 : Sl), v9 = sv l196 ∧ R178 l196 H8) (by rintro _ _ _ _ _ _ ⟨l196, e9, r9⟩ hle hT; exact ⟨l196, e9, m179 _ _ _ r9 hle⟩), .val (sv l161), .val (pv (some (b162, 1))), .val (.int .i64 x191), .val (.int .i64 (w64 (x191 + 1))), .val (sv (Sl.sub 4 l161 (w64 (x191 + 1)).toNat (l161.len : Int).toNat l161.cap))] [.d, .d, .d, .d, .d, .w, .b, .b, .b, .b, .b] 5 H176 (by kernel_rfl) (by kernel_rfl) (by kernel_rfl) c177 trivial (And.intro ?_ (And.intro ?_ (And.intro ?_ (And.intro ?_ (And.intro ?_ (And.intro ?_ (And.intro ?_ (And.intro ?_ (And.intro ?_ (And.intro ?_ (And.intro ?_ (trivial)))))))))))) ?_
                 ·try clear h
                  intro fr' T' H' hle hs hA
                  exact SA.fresh hle (fun h => SOps.lit (E := 36) (cs := #[]) rfl rfl (wantN rfl) (fun _ => by kernel_rfl) (fun b c => h b 0 c trivial))
                 ·try clear h
                  intro fr' T' H' hle hs hA
                  have a4 : fr' 4 = sv l161 := hs 4 (by kernel_rfl)
                  obtain ⟨g', hg'⟩ : ∃ g' : Fr, fr' = g'.upds [(4, sv l161)] := ⟨_, Fr.upds_self _ _ ⟨a4, trivial⟩⟩
                  subst hg'
                  exact SA.val (v := sv l161) rfl (wantN rfl) (fun _ => by kernel_rfl)
                 ·try clear h
                  intro fr' T' H' hle hs hA
                  have a6 : fr' 6 = pv (some (b162, 0)) := hs 6 (by kernel_rfl)
                  obtain ⟨g', hg'⟩ : ∃ g' : Fr, fr' = g'.upds [(6, pv (some (b162, 0)))] := ⟨_, Fr.upds_self _ _ ⟨a6, trivial⟩⟩
                  subst hg'
                  exact SA.val (v := pv (some (b162, 1))) rfl (wantN rfl) (fun _ => by kernel_rfl)
                 ·try clear h
                  intro fr' T' H' hle hs hA
                  have a157 : fr' 157 = pv (some (b162, 1)) := hA 2 (by kernel_rfl)
                  obtain ⟨g', hg'⟩ : ∃ g' : Fr, fr' = g'.upds [(157, pv (some (b162, 1)))] := ⟨_, Fr.upds_self _ _ ⟨a157, trivial⟩⟩
                  subst hg'
                  exact SA.rd hle (v := .int .i64 x186) rfl (wantN rfl) (fun w hw => ev_load1 rfl (fun _ => by kernel_rfl) (p := (b162, 1)) rfl c187 w hw)
                 ·try clear h
                  intro fr' T' H' hle hs hA
                  have a156 : fr' 156 = sv l161 := hA 1 (by kernel_rfl)
                  have a158 : fr' 158 = (.int .i64 x186 : Value) := hA 3 (by kernel_rfl)
                  obtain ⟨g', hg'⟩ : ∃ g' : Fr, fr' = g'.upds [(156, sv l161), (158, (.int .i64 x186 : Value))] := ⟨_, Fr.upds_self _ _ ⟨a156, a158, trivial⟩⟩
                  subst hg'
                  exact SA.val (v := sv (Sl.sub 4 l161 (0 : Int).toNat x186.toNat l161.cap)) rfl (wantN rfl) (fun w => ev_sub (a := (0 : Int)) (b := x186) rfl Tryd.underlying26 (size := 4) (by kernel_rfl) rfl (Or.inl ⟨rfl, rfl⟩) (Or.inr ⟨_, rfl⟩) c188 c189 c190 w)
                 ·try clear h
                  intro fr' T' H' hle hs hA
                  obtain ⟨b184, n185, a155, nb184, kb184, tb184, ob184⟩ := hA 0 (by kernel_rfl)
                  have a159 : fr' 159 = sv (Sl.sub 4 l161 (0 : Int).toNat x186.toNat l161.cap) := hA 4 (by kernel_rfl)
                  obtain ⟨g', hg'⟩ : ∃ g' : Fr, fr' = g'.upds [(155, sv (⟨some (b184, 0), 0, 0⟩ : Sl)), (159, sv (Sl.sub 4 l161 (0 : Int).toNat x186.toNat l161.cap))] := ⟨_, Fr.upds_self _ _ ⟨a155, a159, trivial⟩⟩
                  subst hg'
                  exact SA.wapp (R := R178) (p := fun H9 v9 T9 H8 => ∃ (l196 : Sl), v9 = sv l196 ∧ R178 l196 H8) (mono := (by rintro _ _ _ _ _ _ ⟨l196, e9, r9⟩ hle hT; exact ⟨l196, e9, m179 _ _ _ r9 hle⟩)) (SH.le.upd_in hle kb184) rfl (fun l1 H1 r => ⟨l1, rfl, r⟩) (fun k => SOps.append (z := .agg #[.int .i64 0, .int .i64 0, .string ByteArray.empty, .bool false]) (size := 4) (bytes := 40) rfl rfl (wantN rfl) Tryd.underlying26 (by kernel_rfl) rfl rfl rfl (.inl ⟨⟨_, Tryd.underlying26⟩, _, rfl, rfl, rowLeD c204 (le_updD nb184)⟩) (AppendQ.mono (c198 b184 nb184) (by rintro l1 H1 ⟨g1, g2⟩; exact k l1 H1 g1 g2)))
                 ·try clear h
                  intro fr' T' H' hle hs hA
                  have a4 : fr' 4 = sv l161 := hs 4 (by kernel_rfl)
                  obtain ⟨g', hg'⟩ : ∃ g' : Fr, fr' = g'.upds [(4, sv l161)] := ⟨_, Fr.upds_self _ _ ⟨a4, trivial⟩⟩
                  subst hg'
                  exact SA.val (v := sv l161) rfl (wantN rfl) (fun _ => by kernel_rfl)
                 ·try clear h
                  intro fr' T' H' hle hs hA
                  have a6 : fr' 6 = pv (some (b162, 0)) := hs 6 (by kernel_rfl)
                  obtain ⟨g', hg'⟩ : ∃ g' : Fr, fr' = g'.upds [(6, pv (some (b162, 0)))] := ⟨_, Fr.upds_self _ _ ⟨a6, trivial⟩⟩
                  subst hg'
                  exact SA.val (v := pv (some (b162, 1))) rfl (wantN rfl) (fun _ => by kernel_rfl)
                 ·try clear h
                  intro fr' T' H' hle hs hA
                  have a162 : fr' 162 = pv (some (b162, 1)) := hA 7 (by kernel_rfl) (by kernel_rfl)
                  obtain ⟨g', hg'⟩ : ∃ g' : Fr, fr' = g'.upds [(162, pv (some (b162, 1)))] := ⟨_, Fr.upds_self _ _ ⟨a162, trivial⟩⟩
                  subst hg'
                  exact SA.rdH (Hc := H176) hle (v := .int .i64 x191) rfl (wantN rfl) (fun w hw => ev_load1 rfl (fun _ => by kernel_rfl) (p := (b162, 1)) rfl c192 w hw)
                 ·try clear h
                  intro fr' T' H' hle hs hA
                  have a163 : fr' 163 = (.int .i64 x191 : Value) := hA 8 (by kernel_rfl) (by kernel_rfl)
                  obtain ⟨g', hg'⟩ : ∃ g' : Fr, fr' = g'.upds [(163, (.int .i64 x191 : Value))] := ⟨_, Fr.upds_self _ _ ⟨a163, trivial⟩⟩
                  subst hg'
                  exact SA.val (v := .int .i64 (w64 (x191 + 1))) rfl (wantN rfl) (fun _ => by kernel_rfl)
                 ·try clear h
                  intro fr' T' H' hle hs hA
                  have a161 : fr' 161 = sv l161 := hA 6 (by kernel_rfl) (by kernel_rfl)
                  have a164 : fr' 164 = (.int .i64 (w64 (x191 + 1)) : Value) := hA 9 (by kernel_rfl) (by kernel_rfl)
                  obtain ⟨g', hg'⟩ : ∃ g' : Fr, fr' = g'.upds [(161, sv l161), (164, (.int .i64 (w64 (x191 + 1)) : Value))] := ⟨_, Fr.upds_self _ _ ⟨a161, a164, trivial⟩⟩
                  subst hg'
                  exact SA.val (v := sv (Sl.sub 4 l161 (w64 (x191 + 1)).toNat (l161.len : Int).toNat l161.cap)) rfl (wantN rfl) (fun w => ev_sub (a := (w64 (x191 + 1))) (b := (l161.len : Int)) rfl Tryd.underlying26 (size := 4) (by kernel_rfl) rfl (Or.inr ⟨_, rfl⟩) (Or.inl ⟨rfl, rfl⟩) c193 c194 c195 w)
                 ·intro fr' T' H' hle hs hA hW
                  have a3 : fr' 3 = pv p160 := hs 3 (by kernel_rfl)
                  have a29 : fr' 29 = sv l164 := hs 29 (by kernel_rfl)
                  have a30 : fr' 30 = (.int .i64 x165 : Value) := hs 30 (by kernel_rfl)
                  have a31 : fr' 31 = (.int .i64 x166 : Value) := hs 31 (by kernel_rfl)
                  obtain ⟨l196, a160, rR178⟩ := hA 5 (Nat.le_of_ble_eq_true rfl) (by kernel_rfl) (by kernel_rfl)
                  have a165 : fr' 165 = sv (Sl.sub 4 l161 (w64 (x191 + 1)).toNat (l161.len : Int).toNat l161.cap) := hA 10 (Nat.le_of_ble_eq_true rfl) (by kernel_rfl) (by kernel_rfl)
                  obtain ⟨g', hg'⟩ : ∃ g' : Fr, fr' = g'.upds [(3, pv p160), (29, sv l164), (30, (.int .i64 x165 : Value)), (31, (.int .i64 x166 : Value)), (160, sv l196), (165, sv (Sl.sub 4 l161 (w64 (x191 + 1)).toNat (l161.len : Int).toNat l161.cap))] := ⟨_, Fr.upds_self _ _ ⟨a3, a29, a30, a31, a160, a165, trivial⟩⟩
                  subst hg'
                  obtain ⟨H197, g1, h⟩ := k180 _ _ rR178
                  refine SOps.forget H197 g1 ?_
                  clear g1
                  clear hle hs hA hW
                  obtain ⟨w201, c202, h⟩ := h
                  refine SOps.append (z := .agg #[.int .i64 0, .int .i64 0, .string ByteArray.empty, .bool false]) (size := 4) (bytes := 40) rfl rfl (wantN rfl) Tryd.underlying26 (by kernel_rfl) rfl rfl rfl (.inl ⟨⟨_, Tryd.underlying26⟩, _, rfl, rfl, c202⟩) (AppendQ.mono h ?_)
                  clear h
                  intro l199 H200 h
                  slimval (sv l199)
                  refine SOps.nil ?_
                  exact ⟨_, p160, l199, l164, x165, x166, Fr.upds_self _ _ ⟨rfl, rfl, rfl, rfl, rfl, trivial⟩, h⟩
                ·replace h := h.2 c175
                 have dc175 : (x173 == 1) = false := (beq_eq_false_iff_ne.mpr c175)
                 refine SW.cond_f (t := (x173 == 1)) rfl dc175 ?_
                 refine SW.skip ?_
                 exact ⟨_, p160, l161, l164, x165, x166, Fr.upds_self _ _ ⟨rfl, rfl, rfl, rfl, rfl, trivial⟩, h⟩
               ·replace h := h.2 c172
                have dc172 : q163 = false := (Bool.eq_false_iff.mpr c172)
                refine SOps.off rfl (wantX (c := q163) rfl rfl rfl dc172) ?_
                refine SOps.off rfl (wantX (c := q163) rfl rfl rfl dc172) ?_
                refine SOps.off rfl (wantX (c := q163) rfl rfl rfl dc172) ?_
                refine SOps.val (v := .bool false) rfl (wantN rfl) (fun w => ev_pickF (v := .bool false) rfl (t := q163) rfl dc172 rfl w) ?_
                refine SOps.nil ?_
                refine SW.cond_f (t := false) rfl rfl ?_
                refine SW.skip ?_
                exact ⟨_, p160, l161, l164, x165, x166, Fr.upds_self _ _ ⟨rfl, rfl, rfl, rfl, rfl, trivial⟩, h⟩
              ·skip
               refine SW.seq ?_
               refine SW.draw (by kernel_rfl) (by kernel_rfl) ?_
               refine SQ.val (v := errV e129) rfl (wantN rfl) (fun _ => by kernel_rfl) ?_
               obtain ⟨x141, c142, h⟩ := h
               refine SQ.enter (v := .int .i64 x141) rfl (wantN rfl) (fun _ => by kernel_rfl) ((api_Code.sound F e129 H _ c142).mono (by rintro v H' ⟨_, rfl, rfl, rfl⟩; exact ⟨rfl, rfl⟩)) ?_
               refine SQ.val (v := .int .i64 x127) rfl (wantN rfl) (fun _ => by kernel_rfl) ?_
               refine SQ.val (v := .bool (x141 != x127)) rfl (wantN rfl) (fun _ => by kernel_rfl) ?_
               refine SQ.val (v := .bool (x141 != x127)) rfl (wantN rfl) (fun _ => by kernel_rfl) ?_
               by_cases c143 : x141 ≠ x127
               ·replace h := h.1 c143
                have dc143 : (x141 != x127) = true := (bne_iff_ne.mpr c143)
                refine SQ.off rfl (wantX (c := (x141 != x127)) rfl rfl rfl dc143) ?_
                refine SQ.off rfl (wantX (c := (x141 != x127)) rfl rfl rfl dc143) ?_
                refine SQ.off rfl (wantU rfl rfl rfl) ?_
                refine SQ.off rfl (wantU rfl rfl rfl) ?_
                refine SQ.off rfl (wantU rfl rfl rfl) ?_
                refine SQ.off rfl (wantU rfl rfl rfl) ?_
                refine SQ.off rfl (wantU rfl rfl rfl) ?_
                refine SQ.off rfl (wantU rfl rfl rfl) ?_
                refine SQ.off rfl (wantU rfl rfl rfl) ?_
                refine SQ.off rfl (wantU rfl rfl rfl) ?_
                refine SQ.off rfl (wantX (c := (x141 != x127)) rfl rfl rfl dc143) ?_
                refine SQ.val (v := .bool true) rfl (wantN rfl) (fun w => ev_pickT (v := .bool true) rfl (t := (x141 != x127)) rfl dc143 rfl w) ?_
                refine SQ.val (v := .bool true) rfl (wantN rfl) (fun _ => by kernel_rfl) ?_
                refine SQ.off rfl (wantX (c := true) rfl rfl rfl rfl) ?_
                refine SQ.off rfl (wantX (c := true) rfl rfl rfl rfl) ?_
                refine SQ.off rfl (wantX (c := true) rfl rfl rfl rfl) ?_
                refine SQ.off rfl (wantU rfl rfl rfl) ?_
                refine SQ.off rfl (wantU rfl rfl rfl) ?_
                refine SQ.off rfl (wantU rfl rfl rfl) ?_
                refine SQ.off rfl (wantX (c := true) rfl rfl rfl rfl) ?_
                refine SQ.val (v := .bool true) rfl (wantN rfl) (fun w => ev_pickT (v := .bool true) rfl (t := true) rfl rfl rfl w) ?_
                refine SQ.nil ?_
                refine SW.cond_t (t := true) rfl rfl ?_
                refine SW.seq ?_
                refine SW.region ?_
                slimval (.bool false)
                refine SOps.nil ?_
                obtain ⟨Hr, hr, h⟩ := h
                exact SW.ret (retQ.mk (.bool false) (res1 rfl rfl) hr ⟨false, rfl, h⟩)
               ·replace h := h.2 c143
                have dc143 : (x141 != x127) = false := (by simpa using c143)
                refine SQ.val (v := .bool q126) rfl (wantY (c := (x141 != x127)) rfl rfl rfl dc143) (fun _ => by kernel_rfl) ?_
                refine SQ.val (v := .bool q126) rfl (wantY (c := (x141 != x127)) rfl rfl rfl dc143) (fun _ => by kernel_rfl) ?_
                by_cases c144 : q126 = true
                ·replace h := h.1 c144
                 have dc144 : q126 = true := c144
                 obtain ⟨x145, x146, s147, c148, h⟩ := h
                 refine SQ.rd (v := .agg #[.int .i64 x145, .int .i64 x146, .string s147]) rfl (wantY (c := q126) rfl rfl rfl dc144) (fun w hw => ev_loadN rfl (fun _ => by kernel_rfl) (size := 3) (by kernel_rfl) (p := (b128, 0)) rfl rfl c148 w hw) ?_
                 refine SQ.val (v := sv l124) rfl (wantY (c := q126) rfl rfl rfl dc144) (fun _ => by kernel_rfl) ?_
                 refine SQ.val (v := pv (some (b125, 1))) rfl (wantY (c := q126) rfl rfl rfl dc144) (fun _ => by kernel_rfl) ?_
                 obtain ⟨x149, c150, h⟩ := h
                 refine SQ.rd (v := .int .i64 x149) rfl (wantY (c := q126) rfl rfl rfl dc144) (fun w hw => ev_load1 rfl (fun _ => by kernel_rfl) (p := (b125, 1)) rfl c150 w hw) ?_
                 obtain ⟨p151, c152, c153, c154, h⟩ := h
                 refine SQ.val (v := pv (some (p151.1, (p151.2 + x149.toNat * 4)))) rfl (wantY (c := q126) rfl rfl rfl dc144) (fun w => ev_iaddr rfl Tryd.underlying26 (size := 4) (by kernel_rfl) rfl rfl c152 c153 c154 w) ?_
                 refine SQ.val (v := pv (some (p151.1, (p151.2 + x149.toNat * 4)))) rfl (wantY (c := q126) rfl rfl rfl dc144) (fun _ => by kernel_rfl) ?_
                 obtain ⟨x155, x156, s157, c158, h⟩ := h
                 refine SQ.rd (v := .agg #[.int .i64 x155, .int .i64 x156, .string s157]) rfl (wantY (c := q126) rfl rfl rfl dc144) (fun w hw => ev_loadN rfl (fun _ => by kernel_rfl) (size := 3) (by kernel_rfl) (p := (p151.1, (p151.2 + x149.toNat * 4))) rfl rfl c158 w hw) ?_
                 refine SQ.val (v := .bool (!decide (x145 = x155 ∧ x146 = x156 ∧ s147 = s157))) rfl (wantY (c := q126) rfl rfl rfl dc144) (fun w => ev_pktNe rfl rfl rfl w) ?_
                 refine SQ.val (v := .bool (!decide (x145 = x155 ∧ x146 = x156 ∧ s147 = s157))) rfl (wantY (c := (x141 != x127)) rfl rfl rfl dc143) (fun w => ev_pickT (v := .bool (!decide (x145 = x155 ∧ x146 = x156 ∧ s147 = s157))) rfl (t := q126) rfl dc144 rfl w) ?_
                 refine SQ.val (v := .bool (!decide (x145 = x155 ∧ x146 = x156 ∧ s147 = s157))) rfl (wantN rfl) (fun w => ev_pickF (v := .bool (!decide (x145 = x155 ∧ x146 = x156 ∧ s147 = s157))) rfl (t := (x141 != x127)) rfl dc143 rfl w) ?_
                 refine SQ.val (v := .bool (!decide (x145 = x155 ∧ x146 = x156 ∧ s147 = s157))) rfl (wantN rfl) (fun _ => by kernel_rfl) ?_
                 by_cases c159 : (x145 = x155 ∧ x146 = x156 ∧ s147 = s157)
                 ·replace h := h.1 c159
                  have dc159 : (decide (x145 = x155 ∧ x146 = x156 ∧ s147 = s157)) = true := (decide_eq_true c159)
                  refine SQ.val (v := .bool q126) rfl (wantY (c := !decide (x145 = x155 ∧ x146 = x156 ∧ s147 = s157)) rfl rfl rfl (not_t dc159)) (fun _ => by kernel_rfl) ?_
                  refine SQ.val (v := .bool (!q126)) rfl (wantY (c := !decide (x145 = x155 ∧ x146 = x156 ∧ s147 = s157)) rfl rfl rfl (not_t dc159)) (fun _ => by kernel_rfl) ?_
                  refine SQ.val (v := .bool (!q126)) rfl (wantY (c := !decide (x145 = x155 ∧ x146 = x156 ∧ s147 = s157)) rfl rfl rfl (not_t dc159)) (fun _ => by kernel_rfl) ?_
                  refine SQ.off rfl (wantX (c := !q126) rfl rfl rfl (not_t dc144)) ?_
                  refine SQ.off rfl (wantX (c := !q126) rfl rfl rfl (not_t dc144)) ?_
                  refine SQ.off rfl (wantX (c := !q126) rfl rfl rfl (not_t dc144)) ?_
                  refine SQ.val (v := .bool false) rfl (wantY (c := !decide (x145 = x155 ∧ x146 = x156 ∧ s147 = s157)) rfl rfl rfl (not_t dc159)) (fun w => ev_pickF (v := .bool false) rfl (t := !q126) rfl (not_t dc144) rfl w) ?_
                  refine SQ.val (v := .bool false) rfl (wantN rfl) (fun w => ev_pickF (v := .bool false) rfl (t := !decide (x145 = x155 ∧ x146 = x156 ∧ s147 = s157)) rfl (not_t dc159) rfl w) ?_
                  refine SQ.nil ?_
                  refine SW.cond_f (t := false) rfl rfl ?_
                  refine SW.skip ?_
                  exact ⟨_, p123, l124, b125, q126, l130, x131, x132, Fr.upds_self _ _ ⟨rfl, rfl, rfl, rfl, rfl, rfl, rfl, trivial⟩, h⟩
                 ·replace h := h.2 c159
                  have dc159 : (decide (x145 = x155 ∧ x146 = x156 ∧ s147 = s157)) = false := (decide_eq_false c159)
                  refine SQ.off rfl (wantX (c := !decide (x145 = x155 ∧ x146 = x156 ∧ s147 = s157)) rfl rfl rfl (not_f dc159)) ?_
                  refine SQ.off rfl (wantX (c := !decide (x145 = x155 ∧ x146 = x156 ∧ s147 = s157)) rfl rfl rfl (not_f dc159)) ?_
                  refine SQ.off rfl (wantX (c := !decide (x145 = x155 ∧ x146 = x156 ∧ s147 = s157)) rfl rfl rfl (not_f dc159)) ?_
                  refine SQ.off rfl (wantU rfl rfl rfl) ?_
                  refine SQ.off rfl (wantU rfl rfl rfl) ?_
                  refine SQ.off rfl (wantU rfl rfl rfl) ?_
                  refine SQ.off rfl (wantX (c := !decide (x145 = x155 ∧ x146 = x156 ∧ s147 = s157)) rfl rfl rfl (not_f dc159)) ?_
                  refine SQ.val (v := .bool true) rfl (wantN rfl) (fun w => ev_pickT (v := .bool true) rfl (t := !decide (x145 = x155 ∧ x146 = x156 ∧ s147 = s157)) rfl (not_f dc159) rfl w) ?_
                  refine SQ.nil ?_
                  refine SW.cond_t (t := true) rfl rfl ?_
                  refine SW.seq ?_
                  refine SW.region ?_
                  slimval (.bool false)
                  refine SOps.nil ?_
                  obtain ⟨Hr, hr, h⟩ := h
                  exact SW.ret (retQ.mk (.bool false) (res1 rfl rfl) hr ⟨false, rfl, h⟩)
                ·replace h := h.2 c144
                 have dc144 : q126 = false := (Bool.eq_false_iff.mpr c144)
                 refine SQ.off rfl (wantX (c := q126) rfl rfl rfl dc144) ?_
                 refine SQ.off rfl (wantX (c := q126) rfl rfl rfl dc144) ?_
                 refine SQ.off rfl (wantX (c := q126) rfl rfl rfl dc144) ?_
                 refine SQ.off rfl (wantX (c := q126) rfl rfl rfl dc144) ?_
                 refine SQ.off rfl (wantX (c := q126) rfl rfl rfl dc144) ?_
                 refine SQ.off rfl (wantX (c := q126) rfl rfl rfl dc144) ?_
                 refine SQ.off rfl (wantX (c := q126) rfl rfl rfl dc144) ?_
                 refine SQ.off rfl (wantX (c := q126) rfl rfl rfl dc144) ?_
                 refine SQ.val (v := .bool false) rfl (wantY (c := (x141 != x127)) rfl rfl rfl dc143) (fun w => ev_pickF (v := .bool false) rfl (t := q126) rfl dc144 rfl w) ?_
                 refine SQ.val (v := .bool false) rfl (wantN rfl) (fun w => ev_pickF (v := .bool false) rfl (t := (x141 != x127)) rfl dc143 rfl w) ?_
                 refine SQ.val (v := .bool false) rfl (wantN rfl) (fun _ => by kernel_rfl) ?_
                 refine SQ.val (v := .bool q126) rfl (wantY (c := false) rfl rfl rfl rfl) (fun _ => by kernel_rfl) ?_
                 refine SQ.val (v := .bool (!q126)) rfl (wantY (c := false) rfl rfl rfl rfl) (fun _ => by kernel_rfl) ?_
                 refine SQ.val (v := .bool (!q126)) rfl (wantY (c := false) rfl rfl rfl rfl) (fun _ => by kernel_rfl) ?_
                 obtain ⟨x167, x168, s169, c170, h⟩ := h
                 refine SQ.rd (v := .agg #[.int .i64 x167, .int .i64 x168, .string s169]) rfl (wantY (c := !q126) rfl rfl rfl (not_f dc144)) (fun w hw => ev_loadN rfl (fun _ => by kernel_rfl) (size := 3) (by kernel_rfl) (p := (b128, 0)) rfl rfl c170 w hw) ?_
                 refine SQ.val (v := .agg #[.int .i64 0, .int .i64 0, .string ByteArray.empty]) rfl (wantY (c := !q126) rfl rfl rfl (not_f dc144)) (fun _ => by kernel_rfl) ?_
                 refine SQ.val (v := .bool (!decide (x167 = 0 ∧ x168 = 0 ∧ s169 = ByteArray.empty))) rfl (wantY (c := !q126) rfl rfl rfl (not_f dc144)) (fun w => ev_pktNe rfl rfl rfl w) ?_
                 refine SQ.val (v := .bool (!decide (x167 = 0 ∧ x168 = 0 ∧ s169 = ByteArray.empty))) rfl (wantY (c := false) rfl rfl rfl rfl) (fun w => ev_pickT (v := .bool (!decide (x167 = 0 ∧ x168 = 0 ∧ s169 = ByteArray.empty))) rfl (t := !q126) rfl (not_f dc144) rfl w) ?_
                 refine SQ.val (v := .bool (!decide (x167 = 0 ∧ x168 = 0 ∧ s169 = ByteArray.empty))) rfl (wantN rfl) (fun w => ev_pickF (v := .bool (!decide (x167 = 0 ∧ x168 = 0 ∧ s169 = ByteArray.empty))) rfl (t := false) rfl rfl rfl w) ?_
                 refine SQ.nil ?_
                 by_cases c171 : (x167 = 0 ∧ x168 = 0 ∧ s169 = ByteArray.empty)
                 ·replace h := h.1 c171
                  have dc171 : (decide (x167 = 0 ∧ x168 = 0 ∧ s169 = ByteArray.empty)) = true := (decide_eq_true c171)
                  refine SW.cond_f (t := !decide (x167 = 0 ∧ x168 = 0 ∧ s169 = ByteArray.empty)) rfl (not_t dc171) ?_
                  refine SW.skip ?_
                  exact ⟨_, p123, l124, b125, q126, l130, x131, x132, Fr.upds_self _ _ ⟨rfl, rfl, rfl, rfl, rfl, rfl, rfl, trivial⟩, h⟩
                 ·replace h := h.2 c171
                  have dc171 : (decide (x167 = 0 ∧ x168 = 0 ∧ s169 = ByteArray.empty)) = false := (decide_eq_false c171)
                  refine SW.cond_t (t := !decide (x167 = 0 ∧ x168 = 0 ∧ s169 = ByteArray.empty)) rfl (not_f dc171) ?_
                  refine SW.seq ?_
                  refine SW.region ?_
                  slimval (.bool false)
                  refine SOps.nil ?_
                  obtain ⟨Hr, hr, h⟩ := h
                  exact SW.ret (retQ.mk (.bool false) (res1 rfl rfl) hr ⟨false, rfl, h⟩)
             ·skip
              refine SW.seq ?_
              refine SW.region ?_
              slimval (pv (some (b101, 0)))
              obtain ⟨x112, c113, h⟩ := h
              refine SOps.rd (v := .int .i64 x112) rfl (wantN rfl) (fun w hw => ev_load1 rfl (fun _ => by kernel_rfl) (p := (b101, 0)) rfl c113 w hw) ?_
              slimval (.bool (x112 == 1))
              refine SOps.nil ?_
              by_cases c114 : x112 = 1
              ·replace h := h.1 c114
               have dc114 : (x112 == 1) = true := (beq_iff_eq.mpr c114)
               refine SW.cond_t (t := (x112 == 1)) rfl dc114 ?_
               refine SW.region ?_
               slimval (pv p99)
               slimval (pv (some (b101, 1)))
               obtain ⟨x115, c116, h⟩ := h
               refine SOps.rd (v := .int .i64 x115) rfl (wantN rfl) (fun w hw => ev_load1 rfl (fun _ => by kernel_rfl) (p := (b101, 1)) rfl c116 w hw) ?_
               refine SOps.enter rfl (wantN rfl) (fun _ => by kernel_rfl) (net_Net_Take.sound F p99 x115 (SH.upd H b110 ⟨[.int .i64 0, .int .i64 0, .string ByteArray.empty], 34, false, 3⟩) _ h) ?_
               clear h
               rintro v H121 ⟨x117, x118, s119, e120, rfl, h⟩
               slimval (.tuple #[.agg #[.int .i64 x117, .int .i64 x118, .string s119], errV e120])
               slimval (.agg #[.int .i64 x117, .int .i64 x118, .string s119])
               slimval (errV e120)
               obtain ⟨c122, h⟩ := h
               refine SOps.storeL (p := (b110, 0)) (v := .agg #[.int .i64 x117, .int .i64 x118, .string s119]) (cs := [.int .i64 x117, .int .i64 x118, .string s119]) rfl rfl (wantN rfl) (size := 3) (by kernel_rfl) rfl rfl rfl rfl (by simp [Value.oneCell', errV_one, pv, sv]) c122 ?_
               slimval (errV e120)
               refine SOps.nil ?_
               exact ⟨_, p99, l100, b101, q102, x103, b110, e120, l104, x105, x106, Fr.upds_self _ _ ⟨rfl, rfl, rfl, rfl, rfl, rfl, rfl, rfl, rfl, rfl, trivial⟩, h⟩
              ·replace h := h.2 c114
               have dc114 : (x112 == 1) = false := (beq_eq_false_iff_ne.mpr c114)
               refine SW.cond_f (t := (x112 == 1)) rfl dc114 ?_
               refine SW.region ?_
               slimval (pv p99)
               slimval (pv (some (b101, 1)))
               obtain ⟨x133, c134, h⟩ := h
               refine SOps.rd (v := .int .i64 x133) rfl (wantN rfl) (fun w hw => ev_load1 rfl (fun _ => by kernel_rfl) (p := (b101, 1)) rfl c134 w hw) ?_
               refine SOps.enter rfl (wantN rfl) (fun _ => by kernel_rfl) (net_Net_Look.sound F p99 x133 (SH.upd H b110 ⟨[.int .i64 0, .int .i64 0, .string ByteArray.empty], 34, false, 3⟩) _ h) ?_
               clear h
               rintro v H139 ⟨x135, x136, s137, e138, rfl, h⟩
               slimval (.tuple #[.agg #[.int .i64 x135, .int .i64 x136, .string s137], errV e138])
               slimval (.agg #[.int .i64 x135, .int .i64 x136, .string s137])
               slimval (errV e138)
               obtain ⟨c140, h⟩ := h
               refine SOps.storeL (p := (b110, 0)) (v := .agg #[.int .i64 x135, .int .i64 x136, .string s137]) (cs := [.int .i64 x135, .int .i64 x136, .string s137]) rfl rfl (wantN rfl) (size := 3) (by kernel_rfl) rfl rfl rfl rfl (by simp [Value.oneCell', errV_one, pv, sv]) c140 ?_
               slimval (errV e138)
               refine SOps.nil ?_
               exact ⟨_, p99, l100, b101, q102, x103, b110, e138, l104, x105, x106, Fr.upds_self _ _ ⟨rfl, rfl, rfl, rfl, rfl, rfl, rfl, rfl, rfl, rfl, trivial⟩, h⟩
            ·replace h := h.2 c109
             have dc109 : q108 = false := (Bool.eq_false_iff.mpr c109)
             refine SW.cond_f (t := q108) rfl dc109 ?_
             refine SW.seq ?_
             refine SW.region ?_
             slimval (.bool (x107 == 3))
             slimval (.bool (x107 == 3))
             refine SOps.nil ?_
             by_cases c207 : x107 = 3
             ·replace h := h.1 c207
              have dc207 : (x107 == 3) = true := (beq_iff_eq.mpr c207)
              refine SW.cond_t (t := (x107 == 3)) rfl dc207 ?_
              refine SW.seq ?_
              refine SW.seq ?_
              refine SW.region ?_
              slimval (pv p99)
              slimval (pv (some (b101, 1)))
              obtain ⟨x208, c209, h⟩ := h
              refine SOps.rd (v := .int .i64 x208) rfl (wantN rfl) (fun w hw => ev_load1 rfl (fun _ => by kernel_rfl) (p := (b101, 1)) rfl c209 w hw) ?_
              refine SOps.enter rfl (wantN rfl) (fun _ => by kernel_rfl) (net_Net_Drop.sound F p99 x208 H _ h) ?_
              clear h
              rintro v H211 ⟨e210, rfl, h⟩
              refine SOps.enter rfl (wantN rfl) (fun _ => by kernel_rfl) (api_Code.sound F e210 H211 _ h) ?_
              clear h
              rintro v H213 ⟨x212, rfl, h⟩
              slimval (.int .i64 x103)
              slimval (.bool (x212 != x103))
              refine SOps.nil ?_
              by_cases c214 : x212 ≠ x103
              ·replace h := h.1 c214
               have dc214 : (x212 != x103) = true := (bne_iff_ne.mpr c214)
               refine SW.cond_t (t := (x212 != x103)) rfl dc214 ?_
               refine SW.seq ?_
               refine SW.region ?_
               slimval (.bool false)
               refine SOps.nil ?_
               obtain ⟨Hr, hr, h⟩ := h
               exact SW.ret (retQ.mk (.bool false) (res1 rfl rfl) hr ⟨false, rfl, h⟩)
              ·replace h := h.2 c214
               have dc214 : (x212 != x103) = false := (by simpa using c214)
               refine SW.cond_f (t := (x212 != x103)) rfl dc214 ?_
               refine SW.skip ?_
               refine SW.seq ?_
               refine SW.region ?_
               slimval (.bool q102)
               refine SOps.nil ?_
               by_cases c215 : q102 = true
               ·replace h := h.1 c215
                have dc215 : q102 = true := c215
                refine SW.cond_t (t := q102) rfl dc215 ?_
                obtain ⟨H216, c217, h⟩ := h
                obtain ⟨x226, c227, h⟩ := h
                obtain ⟨c228, c229, c230, h⟩ := h
                obtain ⟨x231, c232, h⟩ := h
                obtain ⟨c233, c234, c235, h⟩ := h
                obtain ⟨w243, c244, h⟩ := h
                obtain ⟨R218, m219, c238, k220⟩ := AppendQ.ex2 (l := fun b224 => (⟨some (b224, 0), 0, 0⟩ : Sl)) h
                refine SW.drawW [] [.fresh 0 (fun b c => sv ⟨some (b, 0), 0, 0⟩) (fun c => (⟨[], 36, false, 0⟩ : AO)) (fun _ => True), .val (sv l100), .val (pv (some (b101, 1))), .val (.int .i64 x226), .val (sv (Sl.sub 4 l100 (0 : Int).toNat x226.toNat l100.cap)), .rel (fun H9 v9 T9 H8 => ∃ (l236 : Sl), v9 = sv l236 ∧ R218 l236 H8) (by rintro _ _ _ _ _ _ ⟨l236, e9, r9⟩ hle hT; exact ⟨l236, e9, m219 _ _ _ r9 hle⟩), .val (sv l100), .val (pv (some (b101, 1))), .val (.int .i64 x231), .val (.int .i64 (w64 (x231 + 1))), .val (sv (Sl.sub 4 l100 (w64 (x231 + 1)).toNat (l100.len : Int).toNat l100.cap))] [.d, .d, .d, .d, .d, .w, .b, .b, .b, .b, .b] 5 H216 (by kernel_rfl) (by kernel_rfl) (by kernel_rfl) c217 trivial (And.intro ?_ (And.intro ?_ (And.intro ?_ (And.intro ?_ (And.intro ?_ (And.intro ?_ (And.intro ?_ (And.intro ?_ (And.intro ?_ (And.intro ?_ (And.intro ?_ (trivial)))))))))))) ?_
                ·try clear h
                 intro fr' T' H' hle hs hA
                 exact SA.fresh hle (fun h => SOps.lit (E := 36) (cs := #[]) rfl rfl (wantN rfl) (fun _ => by kernel_rfl) (fun b c => h b 0 c trivial))
                ·try clear h
                 intro fr' T' H' hle hs hA
                 have a4 : fr' 4 = sv l100 := hs 4 (by kernel_rfl)
                 obtain ⟨g', hg'⟩ : ∃ g' : Fr, fr' = g'.upds [(4, sv l100)] := ⟨_, Fr.upds_self _ _ ⟨a4, trivial⟩⟩
                 subst hg'
                 exact SA.val (v := sv l100) rfl (wantN rfl) (fun _ => by kernel_rfl)
                ·try clear h
                 intro fr' T' H' hle hs hA
                 have a6 : fr' 6 = pv (some (b101, 0)) := hs 6 (by kernel_rfl)
                 obtain ⟨g', hg'⟩ : ∃ g' : Fr, fr' = g'.upds [(6, pv (some (b101, 0)))] := ⟨_, Fr.upds_self _ _ ⟨a6, trivial⟩⟩
                 subst hg'
                 exact SA.val (v := pv (some (b101, 1))) rfl (wantN rfl) (fun _ => by kernel_rfl)
                ·try clear h
                 intro fr' T' H' hle hs hA
                 have a179 : fr' 179 = pv (some (b101, 1)) := hA 2 (by kernel_rfl)
                 obtain ⟨g', hg'⟩ : ∃ g' : Fr, fr' = g'.upds [(179, pv (some (b101, 1)))] := ⟨_, Fr.upds_self _ _ ⟨a179, trivial⟩⟩
                 subst hg'
                 exact SA.rd hle (v := .int .i64 x226) rfl (wantN rfl) (fun w hw => ev_load1 rfl (fun _ => by kernel_rfl) (p := (b101, 1)) rfl c227 w hw)
                ·try clear h
                 intro fr' T' H' hle hs hA
                 have a178 : fr' 178 = sv l100 := hA 1 (by kernel_rfl)
                 have a180 : fr' 180 = (.int .i64 x226 : Value) := hA 3 (by kernel_rfl)
                 obtain ⟨g', hg'⟩ : ∃ g' : Fr, fr' = g'.upds [(178, sv l100), (180, (.int .i64 x226 : Value))] := ⟨_, Fr.upds_self _ _ ⟨a178, a180, trivial⟩⟩
                 subst hg'
                 exact SA.val (v := sv (Sl.sub 4 l100 (0 : Int).toNat x226.toNat l100.cap)) rfl (wantN rfl) (fun w => ev_sub (a := (0 : Int)) (b := x226) rfl Tryd.underlying26 (size := 4) (by kernel_rfl) rfl (Or.inl ⟨rfl, rfl⟩) (Or.inr ⟨_, rfl⟩) c228 c229 c230 w)
                ·try clear h
                 intro fr' T' H' hle hs hA
                 obtain ⟨b224, n225, a177, nb224, kb224, tb224, ob224⟩ := hA 0 (by kernel_rfl)
                 have a181 : fr' 181 = sv (Sl.sub 4 l100 (0 : Int).toNat x226.toNat l100.cap) := hA 4 (by kernel_rfl)
                 obtain ⟨g', hg'⟩ : ∃ g' : Fr, fr' = g'.upds [(177, sv (⟨some (b224, 0), 0, 0⟩ : Sl)), (181, sv (Sl.sub 4 l100 (0 : Int).toNat x226.toNat l100.cap))] := ⟨_, Fr.upds_self _ _ ⟨a177, a181, trivial⟩⟩
                 subst hg'
                 exact SA.wapp (R := R218) (p := fun H9 v9 T9 H8 => ∃ (l236 : Sl), v9 = sv l236 ∧ R218 l236 H8) (mono := (by rintro _ _ _ _ _ _ ⟨l236, e9, r9⟩ hle hT; exact ⟨l236, e9, m219 _ _ _ r9 hle⟩)) (SH.le.upd_in hle kb224) rfl (fun l1 H1 r => ⟨l1, rfl, r⟩) (fun k => SOps.append (z := .agg #[.int .i64 0, .int .i64 0, .string ByteArray.empty, .bool false]) (size := 4) (bytes := 40) rfl rfl (wantN rfl) Tryd.underlying26 (by kernel_rfl) rfl rfl rfl (.inl ⟨⟨_, Tryd.underlying26⟩, _, rfl, rfl, rowLeD c244 (le_updD nb224)⟩) (AppendQ.mono (c238 b224 nb224) (by rintro l1 H1 ⟨g1, g2⟩; exact k l1 H1 g1 g2)))
                ·try clear h
                 intro fr' T' H' hle hs hA
                 have a4 : fr' 4 = sv l100 := hs 4 (by kernel_rfl)
                 obtain ⟨g', hg'⟩ : ∃ g' : Fr, fr' = g'.upds [(4, sv l100)] := ⟨_, Fr.upds_self _ _ ⟨a4, trivial⟩⟩
                 subst hg'
                 exact SA.val (v := sv l100) rfl (wantN rfl) (fun _ => by kernel_rfl)
                ·try clear h
                 intro fr' T' H' hle hs hA
                 have a6 : fr' 6 = pv (some (b101, 0)) := hs 6 (by kernel_rfl)
                 obtain ⟨g', hg'⟩ : ∃ g' : Fr, fr' = g'.upds [(6, pv (some (b101, 0)))] := ⟨_, Fr.upds_self _ _ ⟨a6, trivial⟩⟩
                 subst hg'
                 exact SA.val (v := pv (some (b101, 1))) rfl (wantN rfl) (fun _ => by kernel_rfl)
                ·try clear h
                 intro fr' T' H' hle hs hA
                 have a184 : fr' 184 = pv (some (b101, 1)) := hA 7 (by kernel_rfl) (by kernel_rfl)
                 obtain ⟨g', hg'⟩ : ∃ g' : Fr, fr' = g'.upds [(184, pv (some (b101, 1)))] := ⟨_, Fr.upds_self _ _ ⟨a184, trivial⟩⟩
                 subst hg'
                 exact SA.rdH (Hc := H216) hle (v := .int .i64 x231) rfl (wantN rfl) (fun w hw => ev_load1 rfl (fun _ => by kernel_rfl) (p := (b101, 1)) rfl c232 w hw)
                ·try clear h
                 intro fr' T' H' hle hs hA
                 have a185 : fr' 185 = (.int .i64 x231 : Value) := hA 8 (by kernel_rfl) (by kernel_rfl)
                 obtain ⟨g', hg'⟩ : ∃ g' : Fr, fr' = g'.upds [(185, (.int .i64 x231 : Value))] := ⟨_, Fr.upds_self _ _ ⟨a185, trivial⟩⟩
                 subst hg'
                 exact SA.val (v := .int .i64 (w64 (x231 + 1))) rfl (wantN rfl) (fun _ => by kernel_rfl)
                ·try clear h
                 intro fr' T' H' hle hs hA
                 have a183 : fr' 183 = sv l100 := hA 6 (by kernel_rfl) (by kernel_rfl)
                 have a186 : fr' 186 = (.int .i64 (w64 (x231 + 1)) : Value) := hA 9 (by kernel_rfl) (by kernel_rfl)
                 obtain ⟨g', hg'⟩ : ∃ g' : Fr, fr' = g'.upds [(183, sv l100), (186, (.int .i64 (w64 (x231 + 1)) : Value))] := ⟨_, Fr.upds_self _ _ ⟨a183, a186, trivial⟩⟩
                 subst hg'
                 exact SA.val (v := sv (Sl.sub 4 l100 (w64 (x231 + 1)).toNat (l100.len : Int).toNat l100.cap)) rfl (wantN rfl) (fun w => ev_sub (a := (w64 (x231 + 1))) (b := (l100.len : Int)) rfl Tryd.underlying26 (size := 4) (by kernel_rfl) rfl (Or.inr ⟨_, rfl⟩) (Or.inl ⟨rfl, rfl⟩) c233 c234 c235 w)
                ·intro fr' T' H' hle hs hA hW
                 have a3 : fr' 3 = pv p99 := hs 3 (by kernel_rfl)
                 have a29 : fr' 29 = sv l104 := hs 29 (by kernel_rfl)
                 have a30 : fr' 30 = (.int .i64 x105 : Value) := hs 30 (by kernel_rfl)
                 have a31 : fr' 31 = (.int .i64 x106 : Value) := hs 31 (by kernel_rfl)
                 obtain ⟨l236, a182, rR218⟩ := hA 5 (Nat.le_of_ble_eq_true rfl) (by kernel_rfl) (by kernel_rfl)
                 have a187 : fr' 187 = sv (Sl.sub 4 l100 (w64 (x231 + 1)).toNat (l100.len : Int).toNat l100.cap) := hA 10 (Nat.le_of_ble_eq_true rfl) (by kernel_rfl) (by kernel_rfl)
                 obtain ⟨g', hg'⟩ : ∃ g' : Fr, fr' = g'.upds [(3, pv p99), (29, sv l104), (30, (.int .i64 x105 : Value)), (31, (.int .i64 x106 : Value)), (182, sv l236), (187, sv (Sl.sub 4 l100 (w64 (x231 + 1)).toNat (l100.len : Int).toNat l100.cap))] := ⟨_, Fr.upds_self _ _ ⟨a3, a29, a30, a31, a182, a187, trivial⟩⟩
                 subst hg'
                 obtain ⟨H237, g1, h⟩ := k220 _ _ rR218
                 refine SOps.forget H237 g1 ?_
                 clear g1
                 clear hle hs hA hW
                 obtain ⟨w241, c242, h⟩ := h
                 refine SOps.append (z := .agg #[.int .i64 0, .int .i64 0, .string ByteArray.empty, .bool false]) (size := 4) (bytes := 40) rfl rfl (wantN rfl) Tryd.underlying26 (by kernel_rfl) rfl rfl rfl (.inl ⟨⟨_, Tryd.underlying26⟩, _, rfl, rfl, c242⟩) (AppendQ.mono h ?_)
                 clear h
                 intro l239 H240 h
                 slimval (sv l239)
                 refine SOps.nil ?_
                 exact ⟨_, p99, l239, l104, x105, x106, Fr.upds_self _ _ ⟨rfl, rfl, rfl, rfl, rfl, trivial⟩, h⟩
               ·replace h := h.2 c215
                have dc215 : q102 = false := (Bool.eq_false_iff.mpr c215)
                refine SW.cond_f (t := q102) rfl dc215 ?_
                refine SW.skip ?_
                exact ⟨_, p99, l100, l104, x105, x106, Fr.upds_self _ _ ⟨rfl, rfl, rfl, rfl, rfl, trivial⟩, h⟩
             ·replace h := h.2 c207
              have dc207 : (x107 == 3) = false := (beq_eq_false_iff_ne.mpr c207)
              refine SW.cond_f (t := (x107 == 3)) rfl dc207 ?_
              refine SW.seq ?_
              refine SW.region ?_
              slimval (.bool (x107 == 4))
              slimval (.bool (x107 == 4))
              refine SOps.nil ?_
              by_cases c245 : x107 = 4
              ·replace h := h.1 c245
               have dc245 : (x107 == 4) = true := (beq_iff_eq.mpr c245)
               refine SW.cond_t (t := (x107 == 4)) rfl dc245 ?_
               refine SW.seq ?_
               refine SW.seq ?_
               refine SW.region ?_
               slimval (pv p99)
               slimval (pv (some (b101, 1)))
               obtain ⟨x246, c247, h⟩ := h
               refine SOps.rd (v := .int .i64 x246) rfl (wantN rfl) (fun w hw => ev_load1 rfl (fun _ => by kernel_rfl) (p := (b101, 1)) rfl c247 w hw) ?_
               refine SOps.enter rfl (wantN rfl) (fun _ => by kernel_rfl) (net_Net_Twice.sound F p99 x246 H _ h) ?_
               clear h
               rintro v H249 ⟨e248, rfl, h⟩
               refine SOps.enter rfl (wantN rfl) (fun _ => by kernel_rfl) (api_Code.sound F e248 H249 _ h) ?_
               clear h
               rintro v H251 ⟨x250, rfl, h⟩
               slimval (.int .i64 x103)
               slimval (.bool (x250 != x103))
               refine SOps.nil ?_
               by_cases c252 : x250 ≠ x103
               ·replace h := h.1 c252
                have dc252 : (x250 != x103) = true := (bne_iff_ne.mpr c252)
                refine SW.cond_t (t := (x250 != x103)) rfl dc252 ?_
                refine SW.seq ?_
                refine SW.region ?_
                slimval (.bool false)
                refine SOps.nil ?_
                obtain ⟨Hr, hr, h⟩ := h
                exact SW.ret (retQ.mk (.bool false) (res1 rfl rfl) hr ⟨false, rfl, h⟩)
               ·replace h := h.2 c252
                have dc252 : (x250 != x103) = false := (by simpa using c252)
                refine SW.cond_f (t := (x250 != x103)) rfl dc252 ?_
                refine SW.skip ?_
                refine SW.seq ?_
                refine SW.region ?_
                slimval (.bool q102)
                refine SOps.nil ?_
                by_cases c253 : q102 = true
                ·replace h := h.1 c253
                 have dc253 : q102 = true := c253
                 refine SW.cond_t (t := q102) rfl dc253 ?_
                 refine SW.region ?_
                 slimval (sv l100)
                 slimval (sv l100)
                 slimval (pv (some (b101, 1)))
                 obtain ⟨x254, c255, h⟩ := h
                 refine SOps.rd (v := .int .i64 x254) rfl (wantN rfl) (fun w hw => ev_load1 rfl (fun _ => by kernel_rfl) (p := (b101, 1)) rfl c255 w hw) ?_
                 obtain ⟨p256, c257, c258, c259, h⟩ := h
                 refine SOps.val (v := pv (some (p256.1, (p256.2 + x254.toNat * 4)))) rfl (wantN rfl) (fun w => ev_iaddr rfl Tryd.underlying26 (size := 4) (by kernel_rfl) rfl rfl c257 c258 c259 w) ?_
                 obtain ⟨x260, x261, s262, q263, c264, h⟩ := h
                 refine SOps.rd (v := .agg #[.int .i64 x260, .int .i64 x261, .string s262, .bool q263]) rfl (wantN rfl) (fun w hw => ev_loadN rfl (fun _ => by kernel_rfl) (size := 4) (by kernel_rfl) (p := (p256.1, (p256.2 + x254.toNat * 4))) rfl rfl c264 w hw) ?_
                 refine SOps.litAppend (E := 36) (z := .agg #[.int .i64 0, .int .i64 0, .string ByteArray.empty, .bool false]) (size := 4) (bytes := 40) (cs := #[.int .i64 x260, .int .i64 x261, .string s262, .bool q263]) rfl rfl (wantN rfl) (fun _ => by kernel_rfl) rfl rfl (fun _ => wantN rfl) Tryd.underlying26 Tryd.underlying26 (by kernel_rfl) rfl rfl (fun _ => rfl) (AppendQ.mono h ?_)
                 clear h
                 intro l265 H266 h b267
                 slimval (sv l265)
                 refine SOps.nil ?_
                 exact ⟨_, p99, l265, l104, x105, x106, Fr.upds_self _ _ ⟨rfl, rfl, rfl, rfl, rfl, trivial⟩, h⟩
                ·replace h := h.2 c253
                 have dc253 : q102 = false := (Bool.eq_false_iff.mpr c253)
                 refine SW.cond_f (t := q102) rfl dc253 ?_
                 refine SW.skip ?_
                 exact ⟨_, p99, l100, l104, x105, x106, Fr.upds_self _ _ ⟨rfl, rfl, rfl, rfl, rfl, trivial⟩, h⟩
              ·replace h := h.2 c245
               have dc245 : (x107 == 4) = false := (beq_eq_false_iff_ne.mpr c245)
               refine SW.cond_f (t := (x107 == 4)) rfl dc245 ?_
               refine SW.seq ?_
               refine SW.region ?_
               slimval (.bool (x107 == 5))
               slimval (.bool (x107 == 5))
               refine SOps.nil ?_
               by_cases c268 : x107 = 5
               ·replace h := h.1 c268
                have dc268 : (x107 == 5) = true := (beq_iff_eq.mpr c268)
                refine SW.cond_t (t := (x107 == 5)) rfl dc268 ?_
                refine SW.seq ?_
                refine SW.seq ?_
                refine SW.region ?_
                slimval (pv p99)
                slimval (pv (some (b101, 1)))
                obtain ⟨x269, c270, h⟩ := h
                refine SOps.rd (v := .int .i64 x269) rfl (wantN rfl) (fun w hw => ev_load1 rfl (fun _ => by kernel_rfl) (p := (b101, 1)) rfl c270 w hw) ?_
                slimval (pv (some (b101, 2)))
                obtain ⟨x271, c272, h⟩ := h
                refine SOps.rd (v := .int .i64 x271) rfl (wantN rfl) (fun w hw => ev_load1 rfl (fun _ => by kernel_rfl) (p := (b101, 2)) rfl c272 w hw) ?_
                refine SOps.enter rfl (wantN rfl) (fun _ => by kernel_rfl) (net_Net_Turn.sound F p99 x269 x271 H _ h) ?_
                clear h
                rintro v H274 ⟨e273, rfl, h⟩
                refine SOps.enter rfl (wantN rfl) (fun _ => by kernel_rfl) (api_Code.sound F e273 H274 _ h) ?_
                clear h
                rintro v H276 ⟨x275, rfl, h⟩
                slimval (.int .i64 x103)
                slimval (.bool (x275 != x103))
                refine SOps.nil ?_
                by_cases c277 : x275 ≠ x103
                ·replace h := h.1 c277
                 have dc277 : (x275 != x103) = true := (bne_iff_ne.mpr c277)
                 refine SW.cond_t (t := (x275 != x103)) rfl dc277 ?_
                 refine SW.seq ?_
                 refine SW.region ?_
                 slimval (.bool false)
                 refine SOps.nil ?_
                 obtain ⟨Hr, hr, h⟩ := h
                 exact SW.ret (retQ.mk (.bool false) (res1 rfl rfl) hr ⟨false, rfl, h⟩)
                ·replace h := h.2 c277
                 have dc277 : (x275 != x103) = false := (by simpa using c277)
                 refine SW.cond_f (t := (x275 != x103)) rfl dc277 ?_
                 refine SW.skip ?_
                 refine SW.seq ?_
                 refine SW.region ?_
                 slimval (.bool q102)
                 refine SOps.nil ?_
                 by_cases c278 : q102 = true
                 ·replace h := h.1 c278
                  have dc278 : q102 = true := c278
                  refine SW.cond_t (t := q102) rfl dc278 ?_
                  refine SW.seq ?_
                  refine SW.region ?_
                  slimval (sv l100)
                  slimval (pv (some (b101, 1)))
                  obtain ⟨x279, c280, h⟩ := h
                  refine SOps.rd (v := .int .i64 x279) rfl (wantN rfl) (fun w hw => ev_load1 rfl (fun _ => by kernel_rfl) (p := (b101, 1)) rfl c280 w hw) ?_
                  obtain ⟨p281, c282, c283, c284, h⟩ := h
                  refine SOps.val (v := pv (some (p281.1, (p281.2 + x279.toNat * 4)))) rfl (wantN rfl) (fun w => ev_iaddr rfl Tryd.underlying26 (size := 4) (by kernel_rfl) rfl rfl c282 c283 c284 w) ?_
                  obtain ⟨x285, x286, s287, q288, c289, h⟩ := h
                  refine SOps.rd (v := .agg #[.int .i64 x285, .int .i64 x286, .string s287, .bool q288]) rfl (wantN rfl) (fun w hw => ev_loadN rfl (fun _ => by kernel_rfl) (size := 4) (by kernel_rfl) (p := (p281.1, (p281.2 + x279.toNat * 4))) rfl rfl c289 w hw) ?_
                  refine SOps.alloc rfl rfl (wantN rfl) (z := .agg #[.int .i64 0, .int .i64 0, .string ByteArray.empty, .bool false]) (by kernel_rfl) (fun b290 c291 => ?_)
                  replace h := h b290 c291
                  obtain ⟨c292, h⟩ := h
                  refine SOps.storeL (p := (b290, 0)) (v := .agg #[.int .i64 x285, .int .i64 x286, .string s287, .bool q288]) (cs := [.int .i64 x285, .int .i64 x286, .string s287, .bool q288]) rfl rfl (wantN rfl) (size := 4) (by kernel_rfl) rfl rfl rfl rfl (by simp [Value.oneCell', errV_one, pv, sv]) c292 ?_
                  refine SOps.nil ?_
                  refine SW.seq ?_
                  obtain ⟨H293, c294, h⟩ := h
                  obtain ⟨x303, c304, h⟩ := h
                  obtain ⟨c305, c306, c307, h⟩ := h
                  obtain ⟨x308, c309, h⟩ := h
                  obtain ⟨c310, c311, c312, h⟩ := h
                  obtain ⟨w325, c326, h⟩ := h
                  obtain ⟨R295, m296, c315, k297⟩ := AppendQ.ex2 (l := fun b301 => (⟨some (b301, 0), 0, 0⟩ : Sl)) h
                  refine SW.drawW [] [.fresh 0 (fun b c => sv ⟨some (b, 0), 0, 0⟩) (fun c => (⟨[], 36, false, 0⟩ : AO)) (fun _ => True), .val (sv l100), .val (pv (some (b101, 1))), .val (.int .i64 x303), .val (sv (Sl.sub 4 l100 (0 : Int).toNat x303.toNat l100.cap)), .rel (fun H9 v9 T9 H8 => ∃ (l313 : Sl), v9 = sv l313 ∧ R295 l313 H8) (by rintro _ _ _ _ _ _ ⟨l313, e9, r9⟩ hle hT; exact ⟨l313, e9, m296 _ _ _ r9 hle⟩), .val (sv l100), .val (pv (some (b101, 1))), .val (.int .i64 x308), .val (.int .i64 (w64 (x308 + 1))), .val (sv (Sl.sub 4 l100 (w64 (x308 + 1)).toNat (l100.len : Int).toNat l100.cap))] [.d, .d, .d, .d, .d, .w, .b, .b, .b, .b, .b] 5 H293 (by kernel_rfl) (by kernel_rfl) (by kernel_rfl) c294 trivial (And.intro ?_ (And.intro ?_ (And.intro ?_ (And.intro ?_ (And.intro ?_ (And.intro ?_ (And.intro ?_ (And.intro ?_ (And.intro ?_ (And.intro ?_ (And.intro ?_ (trivial)))))))))))) ?_
                  ·try clear h
                   intro fr' T' H' hle hs hA
                   exact SA.fresh hle (fun h => SOps.lit (E := 36) (cs := #[]) rfl rfl (wantN rfl) (fun _ => by kernel_rfl) (fun b c => h b 0 c trivial))
                  ·try clear h
                   intro fr' T' H' hle hs hA
                   have a4 : fr' 4 = sv l100 := hs 4 (by kernel_rfl)
                   obtain ⟨g', hg'⟩ : ∃ g' : Fr, fr' = g'.upds [(4, sv l100)] := ⟨_, Fr.upds_self _ _ ⟨a4, trivial⟩⟩
                   subst hg'
                   exact SA.val (v := sv l100) rfl (wantN rfl) (fun _ => by kernel_rfl)
                  ·try clear h
                   intro fr' T' H' hle hs hA
                   have a6 : fr' 6 = pv (some (b101, 0)) := hs 6 (by kernel_rfl)
                   obtain ⟨g', hg'⟩ : ∃ g' : Fr, fr' = g'.upds [(6, pv (some (b101, 0)))] := ⟨_, Fr.upds_self _ _ ⟨a6, trivial⟩⟩
                   subst hg'
                   exact SA.val (v := pv (some (b101, 1))) rfl (wantN rfl) (fun _ => by kernel_rfl)
                  ·try clear h
                   intro fr' T' H' hle hs hA
                   have a226 : fr' 226 = pv (some (b101, 1)) := hA 2 (by kernel_rfl)
                   obtain ⟨g', hg'⟩ : ∃ g' : Fr, fr' = g'.upds [(226, pv (some (b101, 1)))] := ⟨_, Fr.upds_self _ _ ⟨a226, trivial⟩⟩
                   subst hg'
                   exact SA.rd hle (v := .int .i64 x303) rfl (wantN rfl) (fun w hw => ev_load1 rfl (fun _ => by kernel_rfl) (p := (b101, 1)) rfl c304 w hw)
                  ·try clear h
                   intro fr' T' H' hle hs hA
                   have a225 : fr' 225 = sv l100 := hA 1 (by kernel_rfl)
                   have a227 : fr' 227 = (.int .i64 x303 : Value) := hA 3 (by kernel_rfl)
                   obtain ⟨g', hg'⟩ : ∃ g' : Fr, fr' = g'.upds [(225, sv l100), (227, (.int .i64 x303 : Value))] := ⟨_, Fr.upds_self _ _ ⟨a225, a227, trivial⟩⟩
                   subst hg'
                   exact SA.val (v := sv (Sl.sub 4 l100 (0 : Int).toNat x303.toNat l100.cap)) rfl (wantN rfl) (fun w => ev_sub (a := (0 : Int)) (b := x303) rfl Tryd.underlying26 (size := 4) (by kernel_rfl) rfl (Or.inl ⟨rfl, rfl⟩) (Or.inr ⟨_, rfl⟩) c305 c306 c307 w)
                  ·try clear h
                   intro fr' T' H' hle hs hA
                   obtain ⟨b301, n302, a224, nb301, kb301, tb301, ob301⟩ := hA 0 (by kernel_rfl)
                   have a228 : fr' 228 = sv (Sl.sub 4 l100 (0 : Int).toNat x303.toNat l100.cap) := hA 4 (by kernel_rfl)
                   obtain ⟨g', hg'⟩ : ∃ g' : Fr, fr' = g'.upds [(224, sv (⟨some (b301, 0), 0, 0⟩ : Sl)), (228, sv (Sl.sub 4 l100 (0 : Int).toNat x303.toNat l100.cap))] := ⟨_, Fr.upds_self _ _ ⟨a224, a228, trivial⟩⟩
                   subst hg'
                   exact SA.wapp (R := R295) (p := fun H9 v9 T9 H8 => ∃ (l313 : Sl), v9 = sv l313 ∧ R295 l313 H8) (mono := (by rintro _ _ _ _ _ _ ⟨l313, e9, r9⟩ hle hT; exact ⟨l313, e9, m296 _ _ _ r9 hle⟩)) (SH.le.upd_in hle kb301) rfl (fun l1 H1 r => ⟨l1, rfl, r⟩) (fun k => SOps.append (z := .agg #[.int .i64 0, .int .i64 0, .string ByteArray.empty, .bool false]) (size := 4) (bytes := 40) rfl rfl (wantN rfl) Tryd.underlying26 (by kernel_rfl) rfl rfl rfl (.inl ⟨⟨_, Tryd.underlying26⟩, _, rfl, rfl, rowLeD c326 (le_updD nb301)⟩) (AppendQ.mono (c315 b301 nb301) (by rintro l1 H1 ⟨g1, g2⟩; exact k l1 H1 g1 g2)))
                  ·try clear h
                   intro fr' T' H' hle hs hA
                   have a4 : fr' 4 = sv l100 := hs 4 (by kernel_rfl)
                   obtain ⟨g', hg'⟩ : ∃ g' : Fr, fr' = g'.upds [(4, sv l100)] := ⟨_, Fr.upds_self _ _ ⟨a4, trivial⟩⟩
                   subst hg'
                   exact SA.val (v := sv l100) rfl (wantN rfl) (fun _ => by kernel_rfl)
                  ·try clear h
                   intro fr' T' H' hle hs hA
                   have a6 : fr' 6 = pv (some (b101, 0)) := hs 6 (by kernel_rfl)
                   obtain ⟨g', hg'⟩ : ∃ g' : Fr, fr' = g'.upds [(6, pv (some (b101, 0)))] := ⟨_, Fr.upds_self _ _ ⟨a6, trivial⟩⟩
                   subst hg'
                   exact SA.val (v := pv (some (b101, 1))) rfl (wantN rfl) (fun _ => by kernel_rfl)
                  ·try clear h
                   intro fr' T' H' hle hs hA
                   have a231 : fr' 231 = pv (some (b101, 1)) := hA 7 (by kernel_rfl) (by kernel_rfl)
                   obtain ⟨g', hg'⟩ : ∃ g' : Fr, fr' = g'.upds [(231, pv (some (b101, 1)))] := ⟨_, Fr.upds_self _ _ ⟨a231, trivial⟩⟩
                   subst hg'
                   exact SA.rdH (Hc := H293) hle (v := .int .i64 x308) rfl (wantN rfl) (fun w hw => ev_load1 rfl (fun _ => by kernel_rfl) (p := (b101, 1)) rfl c309 w hw)
                  ·try clear h
                   intro fr' T' H' hle hs hA
                   have a232 : fr' 232 = (.int .i64 x308 : Value) := hA 8 (by kernel_rfl) (by kernel_rfl)
                   obtain ⟨g', hg'⟩ : ∃ g' : Fr, fr' = g'.upds [(232, (.int .i64 x308 : Value))] := ⟨_, Fr.upds_self _ _ ⟨a232, trivial⟩⟩
                   subst hg'
                   exact SA.val (v := .int .i64 (w64 (x308 + 1))) rfl (wantN rfl) (fun _ => by kernel_rfl)
                  ·try clear h
                   intro fr' T' H' hle hs hA
                   have a230 : fr' 230 = sv l100 := hA 6 (by kernel_rfl) (by kernel_rfl)
                   have a233 : fr' 233 = (.int .i64 (w64 (x308 + 1)) : Value) := hA 9 (by kernel_rfl) (by kernel_rfl)
                   obtain ⟨g', hg'⟩ : ∃ g' : Fr, fr' = g'.upds [(230, sv l100), (233, (.int .i64 (w64 (x308 + 1)) : Value))] := ⟨_, Fr.upds_self _ _ ⟨a230, a233, trivial⟩⟩
                   subst hg'
                   exact SA.val (v := sv (Sl.sub 4 l100 (w64 (x308 + 1)).toNat (l100.len : Int).toNat l100.cap)) rfl (wantN rfl) (fun w => ev_sub (a := (w64 (x308 + 1))) (b := (l100.len : Int)) rfl Tryd.underlying26 (size := 4) (by kernel_rfl) rfl (Or.inr ⟨_, rfl⟩) (Or.inl ⟨rfl, rfl⟩) c310 c311 c312 w)
                  ·intro fr' T' H' hle hs hA hW
                   have a3 : fr' 3 = pv p99 := hs 3 (by kernel_rfl)
                   have a6 : fr' 6 = pv (some (b101, 0)) := hs 6 (by kernel_rfl)
                   have a12 : fr' 12 = pv (some (b290, 0)) := hs 12 (by kernel_rfl)
                   have a29 : fr' 29 = sv l104 := hs 29 (by kernel_rfl)
                   have a30 : fr' 30 = (.int .i64 x105 : Value) := hs 30 (by kernel_rfl)
                   have a31 : fr' 31 = (.int .i64 x106 : Value) := hs 31 (by kernel_rfl)
                   obtain ⟨l313, a229, rR295⟩ := hA 5 (Nat.le_of_ble_eq_true rfl) (by kernel_rfl) (by kernel_rfl)
                   have a234 : fr' 234 = sv (Sl.sub 4 l100 (w64 (x308 + 1)).toNat (l100.len : Int).toNat l100.cap) := hA 10 (Nat.le_of_ble_eq_true rfl) (by kernel_rfl) (by kernel_rfl)
                   obtain ⟨g', hg'⟩ : ∃ g' : Fr, fr' = g'.upds [(3, pv p99), (6, pv (some (b101, 0))), (12, pv (some (b290, 0))), (29, sv l104), (30, (.int .i64 x105 : Value)), (31, (.int .i64 x106 : Value)), (229, sv l313), (234, sv (Sl.sub 4 l100 (w64 (x308 + 1)).toNat (l100.len : Int).toNat l100.cap))] := ⟨_, Fr.upds_self _ _ ⟨a3, a6, a12, a29, a30, a31, a229, a234, trivial⟩⟩
                   subst hg'
                   obtain ⟨H314, g1, h⟩ := k297 _ _ rR295
                   refine SOps.forget H314 g1 ?_
                   clear g1
                   clear hle hs hA hW
                   obtain ⟨w323, c324, h⟩ := h
                   refine SOps.append (z := .agg #[.int .i64 0, .int .i64 0, .string ByteArray.empty, .bool false]) (size := 4) (bytes := 40) rfl rfl (wantN rfl) Tryd.underlying26 (by kernel_rfl) rfl rfl rfl (.inl ⟨⟨_, Tryd.underlying26⟩, _, rfl, rfl, c324⟩) (AppendQ.mono h ?_)
                   clear h
                   intro l316 H317 h
                   slimval (sv l316)
                   refine SOps.nil ?_
                   refine SW.seq ?_
                   refine SW.region ?_
                   slimval (pv (some (b101, 2)))
                   obtain ⟨x318, c319, h⟩ := h
                   refine SOps.rd (v := .int .i64 x318) rfl (wantN rfl) (fun w hw => ev_load1 rfl (fun _ => by kernel_rfl) (p := (b101, 2)) rfl c319 w hw) ?_
                   slimval (.int .i64 (imax x318 0))
                   slimval (sv l316)
                   slimval (.int .i64 (l316.len : Int))
                   slimval (.int .i64 (imin (imax x318 0) (l316.len : Int)))
                   slimval (.int .i64 (imin (imax x318 0) (l316.len : Int)))
                   refine SOps.nil ?_
                   refine SW.app3 (t := 26) (E := 36) (c := [242, 243, 244, 245, 246, 247, 248, 249, 250, 251, 252, 253, 4]) (rt := 13) (tt := 14) (pt := 12) (size := 4) (bytes := 40) (z := .agg #[.int .i64 0, .int .i64 0, .string ByteArray.empty, .bool false]) (R := l316) (ti := imin (imax x318 0) (l316.len : Int)) (p := (b290, 0)) rfl (by kernel_rfl) (by kernel_rfl) Tryd.underlying26 (by kernel_rfl) rfl (fun _ => by kernel_rfl) rfl rfl rfl (fun _ => by kernel_rfl) (fun csX hx => match csX, hx with | [q0, q1, q2, q3], _ => fun w => by kernel_rfl) (App3.mono h ?_)
                   clear h
                   intro l320 H321 h g322 hs ha
                   have a3 : g322 3 = pv p99 := hs 3 (by kernel_rfl)
                   have a4 : g322 4 = sv l320 := ha
                   have a29 : g322 29 = sv l104 := hs 29 (by kernel_rfl)
                   have a30 : g322 30 = (.int .i64 x105 : Value) := hs 30 (by kernel_rfl)
                   have a31 : g322 31 = (.int .i64 x106 : Value) := hs 31 (by kernel_rfl)
                   obtain ⟨g', hg'⟩ : ∃ g' : Fr, g322 = g'.upds [(3, pv p99), (4, sv l320), (29, sv l104), (30, (.int .i64 x105 : Value)), (31, (.int .i64 x106 : Value))] := ⟨_, Fr.upds_self _ _ ⟨a3, a4, a29, a30, a31, trivial⟩⟩
                   subst hg'
                   clear hs ha
                   exact ⟨_, p99, l320, l104, x105, x106, Fr.upds_self _ _ ⟨rfl, rfl, rfl, rfl, rfl, trivial⟩, h⟩
                 ·replace h := h.2 c278
                  have dc278 : q102 = false := (Bool.eq_false_iff.mpr c278)
                  refine SW.cond_f (t := q102) rfl dc278 ?_
                  refine SW.skip ?_
                  exact ⟨_, p99, l100, l104, x105, x106, Fr.upds_self _ _ ⟨rfl, rfl, rfl, rfl, rfl, trivial⟩, h⟩
               ·replace h := h.2 c268
                have dc268 : (x107 == 5) = false := (beq_eq_false_iff_ne.mpr c268)
                refine SW.cond_f (t := (x107 == 5)) rfl dc268 ?_
                refine SW.seq ?_
                refine SW.region ?_
                slimval (.bool (x107 == 6))
                slimval (.bool (x107 == 6))
                refine SOps.nil ?_
                by_cases c327 : x107 = 6
                ·replace h := h.1 c327
                 have dc327 : (x107 == 6) = true := (beq_iff_eq.mpr c327)
                 refine SW.cond_t (t := (x107 == 6)) rfl dc327 ?_
                 refine SW.seq ?_
                 refine SW.region ?_
                 slimval (.int .i64 x103)
                 slimval (.int .i64 x103)
                 refine SOps.nil ?_
                 refine SW.seqJ (fun fr H => ∃ (g : Fr) (p362 : Option (Nat × Nat)) (l363 : Sl) (b364 : Nat) (x365 : Int) (l366 : Sl) (x367 : Int) (x368 : Int), fr = g.upds [(3, pv p362), (4, sv l363), (6, pv (some (b364, 0))), (15, (.int .i64 x365 : Value)), (29, sv l366), (30, (.int .i64 x367 : Value)), (31, (.int .i64 x368 : Value))] ∧ ladinglaw19_NetPlays.j8 F K (ladinglaw19_NetPlays.l1 F K k1) p362 l363 b364 x365 l366 x367 x368 H) ?_ ?_
                 ·clear h
                  rintro fr H ⟨g, p362, l363, b364, x365, l366, x367, x368, rfl, h⟩
                  unfold ladinglaw19_NetPlays.j8 at h
                  refine SW.seq ?_
                  refine SW.seq ?_
                  refine SW.region ?_
                  slimval (pv p362)
                  slimval (pv (some (b364, 1)))
                  obtain ⟨x370, c371, h⟩ := h
                  refine SOps.rd (v := .int .i64 x370) rfl (wantN rfl) (fun w hw => ev_load1 rfl (fun _ => by kernel_rfl) (p := (b364, 1)) rfl c371 w hw) ?_
                  slimval (pv (some (b364, 2)))
                  obtain ⟨x372, c373, h⟩ := h
                  refine SOps.rd (v := .int .i64 x372) rfl (wantN rfl) (fun w hw => ev_load1 rfl (fun _ => by kernel_rfl) (p := (b364, 2)) rfl c373 w hw) ?_
                  slimval (pv (some (b364, 3)))
                  obtain ⟨x374, c375, h⟩ := h
                  refine SOps.rd (v := .int .u8 x374) rfl (wantN rfl) (fun w hw => ev_load1 rfl (fun _ => by kernel_rfl) (p := (b364, 3)) rfl c375 w hw) ?_
                  refine SOps.enter rfl (wantN rfl) (fun _ => by kernel_rfl) (net_Net_Spoil.sound F p362 x370 x372 x374 H _ h) ?_
                  clear h
                  rintro v H377 ⟨e376, rfl, h⟩
                  refine SOps.enter rfl (wantN rfl) (fun _ => by kernel_rfl) (api_Code.sound F e376 H377 _ h) ?_
                  clear h
                  rintro v H379 ⟨x378, rfl, h⟩
                  slimval (.int .i64 x365)
                  slimval (.bool (x378 != x365))
                  refine SOps.nil ?_
                  by_cases c380 : x378 ≠ x365
                  ·replace h := h.1 c380
                   have dc380 : (x378 != x365) = true := (bne_iff_ne.mpr c380)
                   refine SW.cond_t (t := (x378 != x365)) rfl dc380 ?_
                   refine SW.seq ?_
                   refine SW.region ?_
                   slimval (.bool false)
                   refine SOps.nil ?_
                   obtain ⟨Hr, hr, h⟩ := h
                   exact SW.ret (retQ.mk (.bool false) (res1 rfl rfl) hr ⟨false, rfl, h⟩)
                  ·replace h := h.2 c380
                   have dc380 : (x378 != x365) = false := (by simpa using c380)
                   refine SW.cond_f (t := (x378 != x365)) rfl dc380 ?_
                   refine SW.skip ?_
                   refine SW.seq ?_
                   refine SW.region ?_
                   slimval (.int .i64 x365)
                   slimval (.bool (x365 == 0))
                   refine SOps.nil ?_
                   by_cases c381 : x365 = 0
                   ·replace h := h.1 c381
                    have dc381 : (x365 == 0) = true := (beq_iff_eq.mpr c381)
                    refine SW.cond_t (t := (x365 == 0)) rfl dc381 ?_
                    refine SW.seq ?_
                    refine SW.region ?_
                    slimval (sv l363)
                    slimval (pv (some (b364, 1)))
                    obtain ⟨x382, c383, h⟩ := h
                    refine SOps.rd (v := .int .i64 x382) rfl (wantN rfl) (fun w hw => ev_load1 rfl (fun _ => by kernel_rfl) (p := (b364, 1)) rfl c383 w hw) ?_
                    obtain ⟨p384, c385, c386, c387, h⟩ := h
                    refine SOps.val (v := pv (some (p384.1, (p384.2 + x382.toNat * 4)))) rfl (wantN rfl) (fun w => ev_iaddr rfl Tryd.underlying26 (size := 4) (by kernel_rfl) rfl rfl c385 c386 c387 w) ?_
                    slimval (pv (some (p384.1, (p384.2 + x382.toNat * 4))))
                    slimval (pv (some (p384.1, ((p384.2 + x382.toNat * 4) + 2))))
                    obtain ⟨s388, c389, h⟩ := h
                    refine SOps.rd (v := .string s388) rfl (wantN rfl) (fun w hw => ev_load1 rfl (fun _ => by kernel_rfl) (p := (p384.1, ((p384.2 + x382.toNat * 4) + 2))) rfl c389 w hw) ?_
                    refine SOps.bytes rfl rfl (wantN rfl) Tryd.underlying9 Tryd.underlying42 Tryd.underlying5 rfl rfl (fun b390 n391 c392 c393 => ?_)
                    replace h := h b390 n391 c392 c393
                    slimval (sv (⟨some (b390, 0), s388.size, n391⟩ : Sl))
                    refine SOps.nil ?_
                    refine SW.seq ?_
                    obtain ⟨x394, c395, h⟩ := h
                    obtain ⟨p396, c397, c398, c399, h⟩ := h
                    obtain ⟨x400, c401, h⟩ := h
                    obtain ⟨x402, c403, h⟩ := h
                    obtain ⟨p404, c405, c406, c407, h⟩ := h
                    refine SW.drawA [.val (sv (⟨some (b390, 0), s388.size, n391⟩ : Sl)), .val (pv (some (b364, 2))), .val (.int .i64 x394), .val (pv (some (p396.1, (p396.2 + x394.toNat * 1)))), .val (.int .u8 x400), .val (pv (some (b364, 3))), .val (.int .u8 x402), .val (.int .u8 (ibits .xor .u8 x400 x402)), .val (pv (some (p404.1, (p404.2 + x394.toNat * 1))))] (by kernel_rfl) (by kernel_rfl) (And.intro ?_ (And.intro ?_ (And.intro ?_ (And.intro ?_ (And.intro ?_ (And.intro ?_ (And.intro ?_ (And.intro ?_ (And.intro ?_ (trivial)))))))))) ?_
                    ·clear h
                     intro fr' T' H' hle hs hA
                     have a16 : fr' 16 = sv (⟨some (b390, 0), s388.size, n391⟩ : Sl) := hs 16 (by kernel_rfl)
                     obtain ⟨g', hg'⟩ : ∃ g' : Fr, fr' = g'.upds [(16, sv (⟨some (b390, 0), s388.size, n391⟩ : Sl))] := ⟨_, Fr.upds_self _ _ ⟨a16, trivial⟩⟩
                     subst hg'
                     exact SA.val (v := sv (⟨some (b390, 0), s388.size, n391⟩ : Sl)) rfl (wantN rfl) (fun _ => by kernel_rfl)
                    ·clear h
                     intro fr' T' H' hle hs hA
                     have a6 : fr' 6 = pv (some (b364, 0)) := hs 6 (by kernel_rfl)
                     obtain ⟨g', hg'⟩ : ∃ g' : Fr, fr' = g'.upds [(6, pv (some (b364, 0)))] := ⟨_, Fr.upds_self _ _ ⟨a6, trivial⟩⟩
                     subst hg'
                     exact SA.val (v := pv (some (b364, 2))) rfl (wantN rfl) (fun _ => by kernel_rfl)
                    ·clear h
                     intro fr' T' H' hle hs hA
                     have a310 : fr' 310 = pv (some (b364, 2)) := hA 1 (by kernel_rfl)
                     obtain ⟨g', hg'⟩ : ∃ g' : Fr, fr' = g'.upds [(310, pv (some (b364, 2)))] := ⟨_, Fr.upds_self _ _ ⟨a310, trivial⟩⟩
                     subst hg'
                     exact SA.rd hle (v := .int .i64 x394) rfl (wantN rfl) (fun w hw => ev_load1 rfl (fun _ => by kernel_rfl) (p := (b364, 2)) rfl c395 w hw)
                    ·clear h
                     intro fr' T' H' hle hs hA
                     have a309 : fr' 309 = sv (⟨some (b390, 0), s388.size, n391⟩ : Sl) := hA 0 (by kernel_rfl)
                     have a311 : fr' 311 = (.int .i64 x394 : Value) := hA 2 (by kernel_rfl)
                     obtain ⟨g', hg'⟩ : ∃ g' : Fr, fr' = g'.upds [(309, sv (⟨some (b390, 0), s388.size, n391⟩ : Sl)), (311, (.int .i64 x394 : Value))] := ⟨_, Fr.upds_self _ _ ⟨a309, a311, trivial⟩⟩
                     subst hg'
                     exact SA.val (v := pv (some (p396.1, (p396.2 + x394.toNat * 1)))) rfl (wantN rfl) (fun w => ev_iaddr rfl Tryd.underlying42 (size := 1) (by kernel_rfl) rfl rfl c397 c398 c399 w)
                    ·clear h
                     intro fr' T' H' hle hs hA
                     have a312 : fr' 312 = pv (some (p396.1, (p396.2 + x394.toNat * 1))) := hA 3 (by kernel_rfl)
                     obtain ⟨g', hg'⟩ : ∃ g' : Fr, fr' = g'.upds [(312, pv (some (p396.1, (p396.2 + x394.toNat * 1))))] := ⟨_, Fr.upds_self _ _ ⟨a312, trivial⟩⟩
                     subst hg'
                     exact SA.rd hle (v := .int .u8 x400) rfl (wantN rfl) (fun w hw => ev_load1 rfl (fun _ => by kernel_rfl) (p := (p396.1, (p396.2 + x394.toNat * 1))) rfl c401 w hw)
                    ·clear h
                     intro fr' T' H' hle hs hA
                     have a6 : fr' 6 = pv (some (b364, 0)) := hs 6 (by kernel_rfl)
                     obtain ⟨g', hg'⟩ : ∃ g' : Fr, fr' = g'.upds [(6, pv (some (b364, 0)))] := ⟨_, Fr.upds_self _ _ ⟨a6, trivial⟩⟩
                     subst hg'
                     exact SA.val (v := pv (some (b364, 3))) rfl (wantN rfl) (fun _ => by kernel_rfl)
                    ·clear h
                     intro fr' T' H' hle hs hA
                     have a314 : fr' 314 = pv (some (b364, 3)) := hA 5 (by kernel_rfl)
                     obtain ⟨g', hg'⟩ : ∃ g' : Fr, fr' = g'.upds [(314, pv (some (b364, 3)))] := ⟨_, Fr.upds_self _ _ ⟨a314, trivial⟩⟩
                     subst hg'
                     exact SA.rd hle (v := .int .u8 x402) rfl (wantN rfl) (fun w hw => ev_load1 rfl (fun _ => by kernel_rfl) (p := (b364, 3)) rfl c403 w hw)
                    ·clear h
                     intro fr' T' H' hle hs hA
                     have a313 : fr' 313 = (.int .u8 x400 : Value) := hA 4 (by kernel_rfl)
                     have a315 : fr' 315 = (.int .u8 x402 : Value) := hA 6 (by kernel_rfl)
                     obtain ⟨g', hg'⟩ : ∃ g' : Fr, fr' = g'.upds [(313, (.int .u8 x400 : Value)), (315, (.int .u8 x402 : Value))] := ⟨_, Fr.upds_self _ _ ⟨a313, a315, trivial⟩⟩
                     subst hg'
                     exact SA.val (v := .int .u8 (ibits .xor .u8 x400 x402)) rfl (wantN rfl) (fun _ => by kernel_rfl)
                    ·clear h
                     intro fr' T' H' hle hs hA
                     have a309 : fr' 309 = sv (⟨some (b390, 0), s388.size, n391⟩ : Sl) := hA 0 (by kernel_rfl)
                     have a311 : fr' 311 = (.int .i64 x394 : Value) := hA 2 (by kernel_rfl)
                     obtain ⟨g', hg'⟩ : ∃ g' : Fr, fr' = g'.upds [(309, sv (⟨some (b390, 0), s388.size, n391⟩ : Sl)), (311, (.int .i64 x394 : Value))] := ⟨_, Fr.upds_self _ _ ⟨a309, a311, trivial⟩⟩
                     subst hg'
                     exact SA.val (v := pv (some (p404.1, (p404.2 + x394.toNat * 1)))) rfl (wantN rfl) (fun w => ev_iaddr rfl Tryd.underlying42 (size := 1) (by kernel_rfl) rfl rfl c405 c406 c407 w)
                    ·intro fr' T' H' hle hs hA
                     have a3 : fr' 3 = pv p362 := hs 3 (by kernel_rfl)
                     have a4 : fr' 4 = sv l363 := hs 4 (by kernel_rfl)
                     have a6 : fr' 6 = pv (some (b364, 0)) := hs 6 (by kernel_rfl)
                     have a16 : fr' 16 = sv (⟨some (b390, 0), s388.size, n391⟩ : Sl) := hs 16 (by kernel_rfl)
                     have a29 : fr' 29 = sv l366 := hs 29 (by kernel_rfl)
                     have a30 : fr' 30 = (.int .i64 x367 : Value) := hs 30 (by kernel_rfl)
                     have a31 : fr' 31 = (.int .i64 x368 : Value) := hs 31 (by kernel_rfl)
                     have a316 : fr' 316 = (.int .u8 (ibits .xor .u8 x400 x402) : Value) := hA 7 (Nat.le_of_ble_eq_true rfl)
                     have a317 : fr' 317 = pv (some (p404.1, (p404.2 + x394.toNat * 1))) := hA 8 (Nat.le_of_ble_eq_true rfl)
                     obtain ⟨g', hg'⟩ : ∃ g' : Fr, fr' = g'.upds [(3, pv p362), (4, sv l363), (6, pv (some (b364, 0))), (16, sv (⟨some (b390, 0), s388.size, n391⟩ : Sl)), (29, sv l366), (30, (.int .i64 x367 : Value)), (31, (.int .i64 x368 : Value)), (316, (.int .u8 (ibits .xor .u8 x400 x402) : Value)), (317, pv (some (p404.1, (p404.2 + x394.toNat * 1))))] := ⟨_, Fr.upds_self _ _ ⟨a3, a4, a6, a16, a29, a30, a31, a316, a317, trivial⟩⟩
                     subst hg'
                     refine SOps.forget (SH.upd H379 b390 ⟨byteCells s388.data.toList, 5, false, n391⟩) hle ?_
                     clear hle hs hA
                     obtain ⟨c409, h⟩ := h
                     refine SOps.storeL (p := (p404.1, (p404.2 + x394.toNat * 1))) (v := .int .u8 (ibits .xor .u8 x400 x402)) (cs := [.int .u8 (ibits .xor .u8 x400 x402)]) rfl rfl (wantN rfl) (size := 1) (by kernel_rfl) rfl rfl rfl rfl (by simp [Value.oneCell', errV_one, pv, sv]) c409 ?_
                     refine SOps.nil ?_
                     refine SW.seq ?_
                     refine SW.region ?_
                     refine SOps.lit (E := 36) (cs := #[]) rfl rfl (wantN rfl) (fun _ => by kernel_rfl) (fun b410 c411 => ?_)
                     replace h := h b410 c411
                     slimval (sv l363)
                     obtain ⟨w440, c441, h⟩ := h
                     refine SOps.append (z := .agg #[.int .i64 0, .int .i64 0, .string ByteArray.empty, .bool false]) (size := 4) (bytes := 40) rfl rfl (wantN rfl) Tryd.underlying26 (by kernel_rfl) rfl rfl rfl (.inl ⟨⟨_, Tryd.underlying26⟩, _, rfl, rfl, c441⟩) (AppendQ.mono h ?_)
                     clear h
                     intro l412 H413 h
                     slimval (sv l412)
                     refine SOps.nil ?_
                     obtain ⟨H414, c415, h⟩ := h
                     obtain ⟨x422, c423, h⟩ := h
                     obtain ⟨x424, c425, h⟩ := h
                     obtain ⟨bs426, c427, c428, h⟩ := h
                     obtain ⟨p429, c430, c431, c432, h⟩ := h
                     obtain ⟨p433, c434, c435, c436, h⟩ := h
                     obtain ⟨c437, c438, h⟩ := h
                     refine SW.drawW [] [.val (sv l412), .val (pv (some (b364, 1))), .val (.int .i64 x422), .val (sv l412), .val (pv (some (b364, 1))), .val (.int .i64 x424), .val (sv (⟨some (b390, 0), s388.size, n391⟩ : Sl)), .val (.string (⟨bs426.toArray⟩ : ByteArray)), .val (pv (some (p429.1, (p429.2 + x422.toNat * 4)))), .val (pv (some (p429.1, (p429.2 + x422.toNat * 4)))), .val (pv (some (p429.1, ((p429.2 + x422.toNat * 4) + 2)))), .rel (fun _ _ _ H8 => SH.le (SH.setl H413 (p429.1, ((p429.2 + x422.toNat * 4) + 2)) [.string (⟨bs426.toArray⟩ : ByteArray)]) H8) (fun _ _ _ _ _ _ h hle _ => h.trans hle), .val (pv (some (p433.1, (p433.2 + x424.toNat * 4)))), .val (pv (some (p433.1, ((p433.2 + x424.toNat * 4) + 3))))] [.d, .d, .d, .b, .b, .b, .d, .d, .d, .d, .d, .w, .b, .b] 11 H414 (by kernel_rfl) (by kernel_rfl) (by kernel_rfl) c415 trivial (And.intro ?_ (And.intro ?_ (And.intro ?_ (And.intro ?_ (And.intro ?_ (And.intro ?_ (And.intro ?_ (And.intro ?_ (And.intro ?_ (And.intro ?_ (And.intro ?_ (And.intro ?_ (And.intro ?_ (And.intro ?_ (trivial))))))))))))))) ?_
                     ·try clear h
                      intro fr' T' H' hle hs hA
                      have a4 : fr' 4 = sv l412 := hs 4 (by kernel_rfl)
                      obtain ⟨g', hg'⟩ : ∃ g' : Fr, fr' = g'.upds [(4, sv l412)] := ⟨_, Fr.upds_self _ _ ⟨a4, trivial⟩⟩
                      subst hg'
                      exact SA.val (v := sv l412) rfl (wantN rfl) (fun _ => by kernel_rfl)
                     ·try clear h
                      intro fr' T' H' hle hs hA
                      have a6 : fr' 6 = pv (some (b364, 0)) := hs 6 (by kernel_rfl)
                      obtain ⟨g', hg'⟩ : ∃ g' : Fr, fr' = g'.upds [(6, pv (some (b364, 0)))] := ⟨_, Fr.upds_self _ _ ⟨a6, trivial⟩⟩
                      subst hg'
                      exact SA.val (v := pv (some (b364, 1))) rfl (wantN rfl) (fun _ => by kernel_rfl)
                     ·try clear h
                      intro fr' T' H' hle hs hA
                      have a322 : fr' 322 = pv (some (b364, 1)) := hA 1 (by kernel_rfl)
                      obtain ⟨g', hg'⟩ : ∃ g' : Fr, fr' = g'.upds [(322, pv (some (b364, 1)))] := ⟨_, Fr.upds_self _ _ ⟨a322, trivial⟩⟩
                      subst hg'
                      exact SA.rd hle (v := .int .i64 x422) rfl (wantN rfl) (fun w hw => ev_load1 rfl (fun _ => by kernel_rfl) (p := (b364, 1)) rfl c423 w hw)
                     ·try clear h
                      intro fr' T' H' hle hs hA
                      have a4 : fr' 4 = sv l412 := hs 4 (by kernel_rfl)
                      obtain ⟨g', hg'⟩ : ∃ g' : Fr, fr' = g'.upds [(4, sv l412)] := ⟨_, Fr.upds_self _ _ ⟨a4, trivial⟩⟩
                      subst hg'
                      exact SA.val (v := sv l412) rfl (wantN rfl) (fun _ => by kernel_rfl)
                     ·try clear h
                      intro fr' T' H' hle hs hA
                      have a6 : fr' 6 = pv (some (b364, 0)) := hs 6 (by kernel_rfl)
                      obtain ⟨g', hg'⟩ : ∃ g' : Fr, fr' = g'.upds [(6, pv (some (b364, 0)))] := ⟨_, Fr.upds_self _ _ ⟨a6, trivial⟩⟩
                      subst hg'
                      exact SA.val (v := pv (some (b364, 1))) rfl (wantN rfl) (fun _ => by kernel_rfl)
                     ·try clear h
                      intro fr' T' H' hle hs hA
                      have a325 : fr' 325 = pv (some (b364, 1)) := hA 4 (by kernel_rfl) (by kernel_rfl)
                      obtain ⟨g', hg'⟩ : ∃ g' : Fr, fr' = g'.upds [(325, pv (some (b364, 1)))] := ⟨_, Fr.upds_self _ _ ⟨a325, trivial⟩⟩
                      subst hg'
                      exact SA.rdH (Hc := H414) hle (v := .int .i64 x424) rfl (wantN rfl) (fun w hw => ev_load1 rfl (fun _ => by kernel_rfl) (p := (b364, 1)) rfl c425 w hw)
                     ·try clear h
                      intro fr' T' H' hle hs hA
                      have a16 : fr' 16 = sv (⟨some (b390, 0), s388.size, n391⟩ : Sl) := hs 16 (by kernel_rfl)
                      obtain ⟨g', hg'⟩ : ∃ g' : Fr, fr' = g'.upds [(16, sv (⟨some (b390, 0), s388.size, n391⟩ : Sl))] := ⟨_, Fr.upds_self _ _ ⟨a16, trivial⟩⟩
                      subst hg'
                      exact SA.val (v := sv (⟨some (b390, 0), s388.size, n391⟩ : Sl)) rfl (wantN rfl) (fun _ => by kernel_rfl)
                     ·try clear h
                      intro fr' T' H' hle hs hA
                      have a327 : fr' 327 = sv (⟨some (b390, 0), s388.size, n391⟩ : Sl) := hA 6 (by kernel_rfl)
                      obtain ⟨g', hg'⟩ : ∃ g' : Fr, fr' = g'.upds [(327, sv (⟨some (b390, 0), s388.size, n391⟩ : Sl))] := ⟨_, Fr.upds_self _ _ ⟨a327, trivial⟩⟩
                      subst hg'
                      exact SA.rd hle (v := .string (⟨bs426.toArray⟩ : ByteArray)) rfl (wantN rfl) (fun w hw => ev_str rfl Tryd.underlying42 Tryd.underlying5 Tryd.underlying9 rfl c427 c428 w hw)
                     ·try clear h
                      intro fr' T' H' hle hs hA
                      have a321 : fr' 321 = sv l412 := hA 0 (by kernel_rfl)
                      have a323 : fr' 323 = (.int .i64 x422 : Value) := hA 2 (by kernel_rfl)
                      obtain ⟨g', hg'⟩ : ∃ g' : Fr, fr' = g'.upds [(321, sv l412), (323, (.int .i64 x422 : Value))] := ⟨_, Fr.upds_self _ _ ⟨a321, a323, trivial⟩⟩
                      subst hg'
                      exact SA.val (v := pv (some (p429.1, (p429.2 + x422.toNat * 4)))) rfl (wantN rfl) (fun w => ev_iaddr rfl Tryd.underlying26 (size := 4) (by kernel_rfl) rfl rfl c430 c431 c432 w)
                     ·try clear h
                      intro fr' T' H' hle hs hA
                      have a329 : fr' 329 = pv (some (p429.1, (p429.2 + x422.toNat * 4))) := hA 8 (by kernel_rfl)
                      obtain ⟨g', hg'⟩ : ∃ g' : Fr, fr' = g'.upds [(329, pv (some (p429.1, (p429.2 + x422.toNat * 4))))] := ⟨_, Fr.upds_self _ _ ⟨a329, trivial⟩⟩
                      subst hg'
                      exact SA.val (v := pv (some (p429.1, (p429.2 + x422.toNat * 4)))) rfl (wantN rfl) (fun _ => by kernel_rfl)
                     ·try clear h
                      intro fr' T' H' hle hs hA
                      have a330 : fr' 330 = pv (some (p429.1, (p429.2 + x422.toNat * 4))) := hA 9 (by kernel_rfl)
                      obtain ⟨g', hg'⟩ : ∃ g' : Fr, fr' = g'.upds [(330, pv (some (p429.1, (p429.2 + x422.toNat * 4))))] := ⟨_, Fr.upds_self _ _ ⟨a330, trivial⟩⟩
                      subst hg'
                      exact SA.val (v := pv (some (p429.1, ((p429.2 + x422.toNat * 4) + 2)))) rfl (wantN rfl) (fun _ => by kernel_rfl)
                     ·try clear h
                      intro fr' T' H' hle hs hA
                      have a328 : fr' 328 = (.string (⟨bs426.toArray⟩ : ByteArray) : Value) := hA 7 (by kernel_rfl)
                      have a331 : fr' 331 = pv (some (p429.1, ((p429.2 + x422.toNat * 4) + 2))) := hA 10 (by kernel_rfl)
                      obtain ⟨g', hg'⟩ : ∃ g' : Fr, fr' = g'.upds [(328, (.string (⟨bs426.toArray⟩ : ByteArray) : Value)), (331, pv (some (p429.1, ((p429.2 + x422.toNat * 4) + 2))))] := ⟨_, Fr.upds_self _ _ ⟨a328, a331, trivial⟩⟩
                      subst hg'
                      exact SA.wst2 (X := SH.setl H413 (p429.1, ((p429.2 + x422.toNat * 4) + 2)) [.string (⟨bs426.toArray⟩ : ByteArray)]) (Hc := H413) hle rfl (fun _ h => h) (fun k => SOps.storeL (p := (p429.1, ((p429.2 + x422.toNat * 4) + 2))) (v := .string (⟨bs426.toArray⟩ : ByteArray)) (cs := [.string (⟨bs426.toArray⟩ : ByteArray)]) rfl rfl (wantN rfl) (size := 1) (by kernel_rfl) rfl rfl rfl rfl (by simp [Value.oneCell', errV_one, pv, sv]) c437 (k c438))
                     ·try clear h
                      intro fr' T' H' hle hs hA
                      have a324 : fr' 324 = sv l412 := hA 3 (by kernel_rfl) (by kernel_rfl)
                      have a326 : fr' 326 = (.int .i64 x424 : Value) := hA 5 (by kernel_rfl) (by kernel_rfl)
                      obtain ⟨g', hg'⟩ : ∃ g' : Fr, fr' = g'.upds [(324, sv l412), (326, (.int .i64 x424 : Value))] := ⟨_, Fr.upds_self _ _ ⟨a324, a326, trivial⟩⟩
                      subst hg'
                      exact SA.val (v := pv (some (p433.1, (p433.2 + x424.toNat * 4)))) rfl (wantN rfl) (fun w => ev_iaddr rfl Tryd.underlying26 (size := 4) (by kernel_rfl) rfl rfl c434 c435 c436 w)
                     ·try clear h
                      intro fr' T' H' hle hs hA
                      have a332 : fr' 332 = pv (some (p433.1, (p433.2 + x424.toNat * 4))) := hA 12 (by kernel_rfl) (by kernel_rfl)
                      obtain ⟨g', hg'⟩ : ∃ g' : Fr, fr' = g'.upds [(332, pv (some (p433.1, (p433.2 + x424.toNat * 4))))] := ⟨_, Fr.upds_self _ _ ⟨a332, trivial⟩⟩
                      subst hg'
                      exact SA.val (v := pv (some (p433.1, ((p433.2 + x424.toNat * 4) + 3)))) rfl (wantN rfl) (fun _ => by kernel_rfl)
                     ·intro fr' T' H' hle hs hA hW
                      have a3 : fr' 3 = pv p362 := hs 3 (by kernel_rfl)
                      have a4 : fr' 4 = sv l412 := hs 4 (by kernel_rfl)
                      have a29 : fr' 29 = sv l366 := hs 29 (by kernel_rfl)
                      have a30 : fr' 30 = (.int .i64 x367 : Value) := hs 30 (by kernel_rfl)
                      have a31 : fr' 31 = (.int .i64 x368 : Value) := hs 31 (by kernel_rfl)
                      have a333 : fr' 333 = pv (some (p433.1, ((p433.2 + x424.toNat * 4) + 3))) := hA 13 (Nat.le_of_ble_eq_true rfl) (by kernel_rfl) (by kernel_rfl)
                      obtain ⟨g', hg'⟩ : ∃ g' : Fr, fr' = g'.upds [(3, pv p362), (4, sv l412), (29, sv l366), (30, (.int .i64 x367 : Value)), (31, (.int .i64 x368 : Value)), (333, pv (some (p433.1, ((p433.2 + x424.toNat * 4) + 3))))] := ⟨_, Fr.upds_self _ _ ⟨a3, a4, a29, a30, a31, a333, trivial⟩⟩
                      subst hg'
                      obtain ⟨_, hW⟩ := hW
                      refine SOps.forget (SH.setl H413 (p429.1, ((p429.2 + x422.toNat * 4) + 2)) [.string (⟨bs426.toArray⟩ : ByteArray)]) hW ?_
                      clear hle hs hA hW
                      obtain ⟨c439, h⟩ := h
                      refine SOps.storeL (p := (p433.1, ((p433.2 + x424.toNat * 4) + 3))) (v := .bool true) (cs := [.bool true]) rfl rfl (wantN rfl) (size := 1) (by kernel_rfl) rfl rfl rfl rfl (by simp [Value.oneCell', errV_one, pv, sv]) c439 ?_
                      refine SOps.nil ?_
                      exact ⟨_, p362, l412, l366, x367, x368, Fr.upds_self _ _ ⟨rfl, rfl, rfl, rfl, rfl, trivial⟩, h⟩
                   ·replace h := h.2 c381
                    have dc381 : (x365 == 0) = false := (beq_eq_false_iff_ne.mpr c381)
                    refine SW.cond_f (t := (x365 == 0)) rfl dc381 ?_
                    refine SW.skip ?_
                    exact ⟨_, p362, l363, l366, x367, x368, Fr.upds_self _ _ ⟨rfl, rfl, rfl, rfl, rfl, trivial⟩, h⟩
                 ·skip
                  refine SW.blockJ (fun fr H => ∃ (g : Fr) (p332 : Option (Nat × Nat)) (l333 : Sl) (b334 : Nat) (x335 : Int) (l336 : Sl) (x337 : Int) (x338 : Int), fr = g.upds [(3, pv p332), (4, sv l333), (6, pv (some (b334, 0))), (15, (.int .i64 x335 : Value)), (29, sv l336), (30, (.int .i64 x337 : Value)), (31, (.int .i64 x338 : Value))] ∧ ladinglaw19_NetPlays.j9 F K (ladinglaw19_NetPlays.l1 F K k1) p332 l333 b334 x335 l336 x337 x338 H) ?_ ?_
                  ·clear h
                   rintro fr H ⟨g, p332, l333, b334, x335, l336, x337, x338, rfl, h⟩
                   unfold ladinglaw19_NetPlays.j9 at h
                   exact ⟨_, p332, l333, b334, x335, l336, x337, x338, Fr.upds_self _ _ ⟨rfl, rfl, rfl, rfl, rfl, rfl, rfl, trivial⟩, h⟩
                  ·skip
                   refine SW.seq ?_
                   refine SW.region ?_
                   slimval (.bool q102)
                   slimval (.bool (!q102))
                   slimval (.bool (!q102))
                   refine SOps.nil ?_
                   by_cases c328 : q102 = true
                   ·replace h := h.1 c328
                    have dc328 : q102 = true := c328
                    refine SW.cond_f (t := !q102) rfl (not_t dc328) ?_
                    refine SW.seq ?_
                    refine SW.draw (by kernel_rfl) (by kernel_rfl) ?_
                    refine SQ.val (v := pv (some (b101, 2))) rfl (wantN rfl) (fun _ => by kernel_rfl) ?_
                    obtain ⟨x329, c330, h⟩ := h
                    refine SQ.rd (v := .int .i64 x329) rfl (wantN rfl) (fun w hw => ev_load1 rfl (fun _ => by kernel_rfl) (p := (b101, 2)) rfl c330 w hw) ?_
                    refine SQ.val (v := .bool (decide (x329 < 0))) rfl (wantN rfl) (fun _ => by kernel_rfl) ?_
                    refine SQ.val (v := .bool (decide (x329 < 0))) rfl (wantN rfl) (fun _ => by kernel_rfl) ?_
                    by_cases c331 : x329 < 0
                    ·replace h := h.1 c331
                     have dc331 : (decide (x329 < 0)) = true := (decide_eq_true c331)
                     refine SQ.off rfl (wantX (c := decide (x329 < 0)) rfl rfl rfl dc331) ?_
                     refine SQ.off rfl (wantX (c := decide (x329 < 0)) rfl rfl rfl dc331) ?_
                     refine SQ.off rfl (wantX (c := decide (x329 < 0)) rfl rfl rfl dc331) ?_
                     refine SQ.off rfl (wantX (c := decide (x329 < 0)) rfl rfl rfl dc331) ?_
                     refine SQ.off rfl (wantX (c := decide (x329 < 0)) rfl rfl rfl dc331) ?_
                     refine SQ.off rfl (wantX (c := decide (x329 < 0)) rfl rfl rfl dc331) ?_
                     refine SQ.off rfl (wantX (c := decide (x329 < 0)) rfl rfl rfl dc331) ?_
                     refine SQ.off rfl (wantX (c := decide (x329 < 0)) rfl rfl rfl dc331) ?_
                     refine SQ.off rfl (wantX (c := decide (x329 < 0)) rfl rfl rfl dc331) ?_
                     refine SQ.off rfl (wantX (c := decide (x329 < 0)) rfl rfl rfl dc331) ?_
                     refine SQ.off rfl (wantX (c := decide (x329 < 0)) rfl rfl rfl dc331) ?_
                     refine SQ.val (v := .bool true) rfl (wantN rfl) (fun w => ev_pickT (v := .bool true) rfl (t := decide (x329 < 0)) rfl dc331 rfl w) ?_
                     refine SQ.val (v := .bool true) rfl (wantN rfl) (fun _ => by kernel_rfl) ?_
                     refine SQ.nil ?_
                     refine SW.cond_t (t := true) rfl rfl ?_
                     refine SW.region ?_
                     slimval (.int .i64 2)
                     refine SOps.nil ?_
                     exact ⟨_, p99, l100, b101, 2, l104, x105, x106, Fr.upds_self _ _ ⟨rfl, rfl, rfl, rfl, rfl, rfl, rfl, trivial⟩, h⟩
                    ·replace h := h.2 c331
                     have dc331 : (decide (x329 < 0)) = false := (decide_eq_false c331)
                     refine SQ.val (v := pv (some (b101, 2))) rfl (wantY (c := decide (x329 < 0)) rfl rfl rfl dc331) (fun _ => by kernel_rfl) ?_
                     obtain ⟨x339, c340, h⟩ := h
                     refine SQ.rd (v := .int .i64 x339) rfl (wantY (c := decide (x329 < 0)) rfl rfl rfl dc331) (fun w hw => ev_load1 rfl (fun _ => by kernel_rfl) (p := (b101, 2)) rfl c340 w hw) ?_
                     refine SQ.val (v := sv l100) rfl (wantY (c := decide (x329 < 0)) rfl rfl rfl dc331) (fun _ => by kernel_rfl) ?_
                     refine SQ.val (v := pv (some (b101, 1))) rfl (wantY (c := decide (x329 < 0)) rfl rfl rfl dc331) (fun _ => by kernel_rfl) ?_
                     obtain ⟨x341, c342, h⟩ := h
                     refine SQ.rd (v := .int .i64 x341) rfl (wantY (c := decide (x329 < 0)) rfl rfl rfl dc331) (fun w hw => ev_load1 rfl (fun _ => by kernel_rfl) (p := (b101, 1)) rfl c342 w hw) ?_
                     obtain ⟨p343, c344, c345, c346, h⟩ := h
                     refine SQ.val (v := pv (some (p343.1, (p343.2 + x341.toNat * 4)))) rfl (wantY (c := decide (x329 < 0)) rfl rfl rfl dc331) (fun w => ev_iaddr rfl Tryd.underlying26 (size := 4) (by kernel_rfl) rfl rfl c344 c345 c346 w) ?_
                     refine SQ.val (v := pv (some (p343.1, (p343.2 + x341.toNat * 4)))) rfl (wantY (c := decide (x329 < 0)) rfl rfl rfl dc331) (fun _ => by kernel_rfl) ?_
                     refine SQ.val (v := pv (some (p343.1, ((p343.2 + x341.toNat * 4) + 2)))) rfl (wantY (c := decide (x329 < 0)) rfl rfl rfl dc331) (fun _ => by kernel_rfl) ?_
                     obtain ⟨s347, c348, h⟩ := h
                     refine SQ.rd (v := .string s347) rfl (wantY (c := decide (x329 < 0)) rfl rfl rfl dc331) (fun w hw => ev_load1 rfl (fun _ => by kernel_rfl) (p := (p343.1, ((p343.2 + x341.toNat * 4) + 2))) rfl c348 w hw) ?_
                     refine SQ.val (v := .int .i64 (s347.size : Int)) rfl (wantY (c := decide (x329 < 0)) rfl rfl rfl dc331) (fun _ => by kernel_rfl) ?_
                     refine SQ.val (v := .bool (decide (x339 ≥ (s347.size : Int)))) rfl (wantY (c := decide (x329 < 0)) rfl rfl rfl dc331) (fun _ => by kernel_rfl) ?_
                     refine SQ.val (v := .bool (decide (x339 ≥ (s347.size : Int)))) rfl (wantN rfl) (fun w => ev_pickF (v := .bool (decide (x339 ≥ (s347.size : Int)))) rfl (t := decide (x329 < 0)) rfl dc331 rfl w) ?_
                     refine SQ.val (v := .bool (decide (x339 ≥ (s347.size : Int)))) rfl (wantN rfl) (fun _ => by kernel_rfl) ?_
                     refine SQ.nil ?_
                     by_cases c349 : x339 ≥ (s347.size : Int)
                     ·replace h := h.1 c349
                      have dc349 : (decide (x339 ≥ (s347.size : Int))) = true := (decide_eq_true c349)
                      refine SW.cond_t (t := decide (x339 ≥ (s347.size : Int))) rfl dc349 ?_
                      refine SW.region ?_
                      slimval (.int .i64 2)
                      refine SOps.nil ?_
                      exact ⟨_, p99, l100, b101, 2, l104, x105, x106, Fr.upds_self _ _ ⟨rfl, rfl, rfl, rfl, rfl, rfl, rfl, trivial⟩, h⟩
                     ·replace h := h.2 c349
                      have dc349 : (decide (x339 ≥ (s347.size : Int))) = false := (decide_eq_false c349)
                      refine SW.cond_f (t := decide (x339 ≥ (s347.size : Int))) rfl dc349 ?_
                      refine SW.seq ?_
                      refine SW.region ?_
                      slimval (pv (some (b101, 3)))
                      obtain ⟨x350, c351, h⟩ := h
                      refine SOps.rd (v := .int .u8 x350) rfl (wantN rfl) (fun w hw => ev_load1 rfl (fun _ => by kernel_rfl) (p := (b101, 3)) rfl c351 w hw) ?_
                      slimval (.bool (x350 == 0))
                      slimval (.bool (x350 == 0))
                      refine SOps.nil ?_
                      by_cases c352 : x350 = 0
                      ·replace h := h.1 c352
                       have dc352 : (x350 == 0) = true := (beq_iff_eq.mpr c352)
                       refine SW.cond_t (t := (x350 == 0)) rfl dc352 ?_
                       refine SW.region ?_
                       slimval (.int .i64 1)
                       refine SOps.nil ?_
                       exact ⟨_, p99, l100, b101, 1, l104, x105, x106, Fr.upds_self _ _ ⟨rfl, rfl, rfl, rfl, rfl, rfl, rfl, trivial⟩, h⟩
                      ·replace h := h.2 c352
                       have dc352 : (x350 == 0) = false := (beq_eq_false_iff_ne.mpr c352)
                       refine SW.cond_f (t := (x350 == 0)) rfl dc352 ?_
                       refine SW.seq ?_
                       refine SW.region ?_
                       slimval (sv l100)
                       slimval (pv (some (b101, 1)))
                       obtain ⟨x353, c354, h⟩ := h
                       refine SOps.rd (v := .int .i64 x353) rfl (wantN rfl) (fun w hw => ev_load1 rfl (fun _ => by kernel_rfl) (p := (b101, 1)) rfl c354 w hw) ?_
                       obtain ⟨p355, c356, c357, c358, h⟩ := h
                       refine SOps.val (v := pv (some (p355.1, (p355.2 + x353.toNat * 4)))) rfl (wantN rfl) (fun w => ev_iaddr rfl Tryd.underlying26 (size := 4) (by kernel_rfl) rfl rfl c356 c357 c358 w) ?_
                       slimval (pv (some (p355.1, ((p355.2 + x353.toNat * 4) + 3))))
                       obtain ⟨q359, c360, h⟩ := h
                       refine SOps.rd (v := .bool q359) rfl (wantN rfl) (fun w hw => ev_load1 rfl (fun _ => by kernel_rfl) (p := (p355.1, ((p355.2 + x353.toNat * 4) + 3))) rfl c360 w hw) ?_
                       slimval (.bool q359)
                       refine SOps.nil ?_
                       by_cases c361 : q359 = true
                       ·replace h := h.1 c361
                        have dc361 : q359 = true := c361
                        refine SW.cond_t (t := q359) rfl dc361 ?_
                        refine SW.region ?_
                        slimval (.int .i64 12)
                        refine SOps.nil ?_
                        exact ⟨_, p99, l100, b101, 12, l104, x105, x106, Fr.upds_self _ _ ⟨rfl, rfl, rfl, rfl, rfl, rfl, rfl, trivial⟩, h⟩
                       ·replace h := h.2 c361
                        have dc361 : q359 = false := (Bool.eq_false_iff.mpr c361)
                        refine SW.cond_f (t := q359) rfl dc361 ?_
                        refine SW.skip ?_
                        exact ⟨_, p99, l100, b101, x103, l104, x105, x106, Fr.upds_self _ _ ⟨rfl, rfl, rfl, rfl, rfl, rfl, rfl, trivial⟩, h⟩
                   ·replace h := h.2 c328
                    have dc328 : q102 = false := (Bool.eq_false_iff.mpr c328)
                    refine SW.cond_t (t := !q102) rfl (not_f dc328) ?_
                    refine SW.skip ?_
                    exact ⟨_, p99, l100, b101, x103, l104, x105, x106, Fr.upds_self _ _ ⟨rfl, rfl, rfl, rfl, rfl, rfl, rfl, trivial⟩, h⟩
                ·replace h := h.2 c327
                 have dc327 : (x107 == 6) = false := (beq_eq_false_iff_ne.mpr c327)
                 refine SW.cond_f (t := (x107 == 6)) rfl dc327 ?_
                 refine SW.seq ?_
                 refine SW.region ?_
                 slimval (.bool (x107 == 7))
                 slimval (.bool (x107 == 7))
                 refine SOps.nil ?_
                 by_cases c443 : x107 = 7
                 ·replace h := h.1 c443
                  have dc443 : (x107 == 7) = true := (beq_iff_eq.mpr c443)
                  refine SW.cond_t (t := (x107 == 7)) rfl dc443 ?_
                  refine SW.seq ?_
                  refine SW.region ?_
                  slimval (sv Sl.nil)
                  refine SOps.nil ?_
                  refine SW.seq ?_
                  refine SW.seq ?_
                  refine SW.region ?_
                  slimval (sv l100)
                  slimval (.int .i64 (l100.len : Int))
                  slimval (.int .i64 0)
                  refine SOps.nil ?_
                  refine SW.block ?_
                  refine SW.loop (fun k2 fr H => ∃ (g : Fr) (p444 : Option (Nat × Nat)) (l445 : Sl) (b446 : Nat) (l447 : Sl) (l448 : Sl) (x449 : Int) (x450 : Int) (l451 : Sl) (x452 : Int) (x453 : Int), fr = g.upds [(3, pv p444), (4, sv l445), (6, pv (some (b446, 0))), (17, sv l447), (29, sv l448), (30, (.int .i64 x449 : Value)), (31, (.int .i64 x450 : Value)), (336, sv l451), (337, (.int .i64 x452 : Value)), (338, (.int .i64 x453 : Value))] ∧ ladinglaw19_NetPlays.l2 F K (ladinglaw19_NetPlays.l1 F K k1) k2 p444 l445 b446 l447 l448 x449 x450 l451 x452 x453 H) F ⟨_, p99, l100, b101, Sl.nil, l104, x105, x106, l100, (l100.len : Int), 0, (Fr.upds_self _ _ ⟨rfl, rfl, rfl, rfl, rfl, rfl, rfl, rfl, rfl, rfl, trivial⟩), h⟩ ?_
                  clear h
                  rintro k2 fr H ⟨g, p444, l445, b446, l447, l448, x449, x450, l451, x452, x453, rfl, h⟩
                  cases k2 with
                  | zero => exact h.elim
                  | succ k2 =>
                   replace h : ladinglaw19_NetPlays.r2 F K (ladinglaw19_NetPlays.l1 F K k1) (ladinglaw19_NetPlays.l2 F K (ladinglaw19_NetPlays.l1 F K k1) k2) p444 l445 b446 l447 l448 x449 x450 l451 x452 x453 H := h
                   unfold ladinglaw19_NetPlays.r2 at h
                   refine SW.seq ?_
                   refine SW.region ?_
                   slimval (.bool (decide (x453 < x452)))
                   refine SOps.nil ?_
                   refine SW.seq ?_
                   by_cases c454 : x453 < x452
                   ·replace h := h.1 c454
                    have dc454 : (decide (x453 < x452)) = true := (decide_eq_true c454)
                    refine SW.cond_t (t := decide (x453 < x452)) rfl dc454 ?_
                    refine SW.skip ?_
                    refine SW.seqJ (fun fr H => ∃ (g : Fr) (p495 : Option (Nat × Nat)) (l496 : Sl) (b497 : Nat) (l498 : Sl) (l499 : Sl) (x500 : Int) (x501 : Int) (l502 : Sl) (x503 : Int) (x504 : Int), fr = g.upds [(3, pv p495), (4, sv l496), (6, pv (some (b497, 0))), (17, sv l498), (29, sv l499), (30, (.int .i64 x500 : Value)), (31, (.int .i64 x501 : Value)), (336, sv l502), (337, (.int .i64 x503 : Value)), (338, (.int .i64 x504 : Value))] ∧ ladinglaw19_NetPlays.j10 F K (ladinglaw19_NetPlays.l1 F K k1) (ladinglaw19_NetPlays.l2 F K (ladinglaw19_NetPlays.l1 F K k1) k2) p495 l496 b497 l498 l499 x500 x501 l502 x503 x504 H) ?_ ?_
                    ·clear h
                     rintro fr H ⟨g, p495, l496, b497, l498, l499, x500, x501, l502, x503, x504, rfl, h⟩
                     unfold ladinglaw19_NetPlays.j10 at h
                     refine SW.region ?_
                     slimval (.int .i64 (w64 (x504 + 1)))
                     slimval (.int .i64 (w64 (x504 + 1)))
                     refine SOps.nil ?_
                     exact ⟨k2, Nat.lt_succ_self k2, _, p495, l496, b497, l498, l499, x500, x501, l502, x503, w64 (x504 + 1), (Fr.upds_self _ _ ⟨rfl, rfl, rfl, rfl, rfl, rfl, rfl, rfl, rfl, rfl, trivial⟩), h⟩
                    ·skip
                     refine SW.blockJ (fun fr H => ∃ (g : Fr) (p485 : Option (Nat × Nat)) (l486 : Sl) (b487 : Nat) (l488 : Sl) (l489 : Sl) (x490 : Int) (x491 : Int) (l492 : Sl) (x493 : Int) (x494 : Int), fr = g.upds [(3, pv p485), (4, sv l486), (6, pv (some (b487, 0))), (17, sv l488), (29, sv l489), (30, (.int .i64 x490 : Value)), (31, (.int .i64 x491 : Value)), (336, sv l492), (337, (.int .i64 x493 : Value)), (338, (.int .i64 x494 : Value))] ∧ ladinglaw19_NetPlays.j11 F K (ladinglaw19_NetPlays.l1 F K k1) (ladinglaw19_NetPlays.l2 F K (ladinglaw19_NetPlays.l1 F K k1) k2) p485 l486 b487 l488 l489 x490 x491 l492 x493 x494 H) ?_ ?_
                     ·clear h
                      rintro fr H ⟨g, p485, l486, b487, l488, l489, x490, x491, l492, x493, x494, rfl, h⟩
                      unfold ladinglaw19_NetPlays.j11 at h
                      exact ⟨_, p485, l486, b487, l488, l489, x490, x491, l492, x493, x494, Fr.upds_self _ _ ⟨rfl, rfl, rfl, rfl, rfl, rfl, rfl, rfl, rfl, rfl, trivial⟩, h⟩
                     ·skip
                      refine SW.seq ?_
                      refine SW.region ?_
                      obtain ⟨p455, c456, c457, c458, h⟩ := h
                      refine SOps.val (v := pv (some (p455.1, (p455.2 + x453.toNat * 4)))) rfl (wantN rfl) (fun w => ev_iaddr rfl Tryd.underlying26 (size := 4) (by kernel_rfl) rfl rfl c456 c457 c458 w) ?_
                      obtain ⟨x459, x460, s461, q462, c463, h⟩ := h
                      refine SOps.rd (v := .agg #[.int .i64 x459, .int .i64 x460, .string s461, .bool q462]) rfl (wantN rfl) (fun w hw => ev_loadN rfl (fun _ => by kernel_rfl) (size := 4) (by kernel_rfl) (p := (p455.1, (p455.2 + x453.toNat * 4))) rfl rfl c463 w hw) ?_
                      refine SOps.alloc rfl rfl (wantN rfl) (z := .agg #[.int .i64 0, .int .i64 0, .string ByteArray.empty, .bool false]) (by kernel_rfl) (fun b464 c465 => ?_)
                      replace h := h b464 c465
                      obtain ⟨c466, h⟩ := h
                      refine SOps.storeL (p := (b464, 0)) (v := .agg #[.int .i64 x459, .int .i64 x460, .string s461, .bool q462]) (cs := [.int .i64 x459, .int .i64 x460, .string s461, .bool q462]) rfl rfl (wantN rfl) (size := 4) (by kernel_rfl) rfl rfl rfl rfl (by simp [Value.oneCell', errV_one, pv, sv]) c466 ?_
                      refine SOps.nil ?_
                      refine SW.seq ?_
                      refine SW.region ?_
                      slimval (pv (some (b464, 0)))
                      slimval (pv (some (b464, 0)))
                      obtain ⟨x467, c468, h⟩ := h
                      refine SOps.rd (v := .int .i64 x467) rfl (wantN rfl) (fun w hw => ev_load1 rfl (fun _ => by kernel_rfl) (p := (b464, 0)) rfl c468 w hw) ?_
                      slimval (pv (some (b446, 1)))
                      obtain ⟨x469, c470, h⟩ := h
                      refine SOps.rd (v := .int .i64 x469) rfl (wantN rfl) (fun w hw => ev_load1 rfl (fun _ => by kernel_rfl) (p := (b446, 1)) rfl c470 w hw) ?_
                      slimval (.bool (x467 != x469))
                      slimval (.bool (x467 != x469))
                      by_cases c471 : x467 ≠ x469
                      ·replace h := h.1 c471
                       have dc471 : (x467 != x469) = true := (bne_iff_ne.mpr c471)
                       refine SOps.val (v := pv (some (b464, 0))) rfl (wantY (c := (x467 != x469)) rfl rfl rfl dc471) (fun _ => by kernel_rfl) ?_
                       refine SOps.val (v := pv (some (b464, 1))) rfl (wantY (c := (x467 != x469)) rfl rfl rfl dc471) (fun _ => by kernel_rfl) ?_
                       obtain ⟨x472, c473, h⟩ := h
                       refine SOps.rd (v := .int .i64 x472) rfl (wantY (c := (x467 != x469)) rfl rfl rfl dc471) (fun w hw => ev_load1 rfl (fun _ => by kernel_rfl) (p := (b464, 1)) rfl c473 w hw) ?_
                       refine SOps.val (v := pv (some (b446, 1))) rfl (wantY (c := (x467 != x469)) rfl rfl rfl dc471) (fun _ => by kernel_rfl) ?_
                       obtain ⟨x474, c475, h⟩ := h
                       refine SOps.rd (v := .int .i64 x474) rfl (wantY (c := (x467 != x469)) rfl rfl rfl dc471) (fun w hw => ev_load1 rfl (fun _ => by kernel_rfl) (p := (b446, 1)) rfl c475 w hw) ?_
                       refine SOps.val (v := .bool (x472 != x474)) rfl (wantY (c := (x467 != x469)) rfl rfl rfl dc471) (fun _ => by kernel_rfl) ?_
                       refine SOps.val (v := .bool (x472 != x474)) rfl (wantN rfl) (fun w => ev_pickT (v := .bool (x472 != x474)) rfl (t := (x467 != x469)) rfl dc471 rfl w) ?_
                       refine SOps.nil ?_
                       by_cases c476 : x472 ≠ x474
                       ·replace h := h.1 c476
                        have dc476 : (x472 != x474) = true := (bne_iff_ne.mpr c476)
                        refine SW.cond_t (t := (x472 != x474)) rfl dc476 ?_
                        refine SW.region ?_
                        slimval (sv l447)
                        obtain ⟨x477, x478, s479, q480, c481, h⟩ := h
                        refine SOps.rd (v := .agg #[.int .i64 x477, .int .i64 x478, .string s479, .bool q480]) rfl (wantN rfl) (fun w hw => ev_loadN rfl (fun _ => by kernel_rfl) (size := 4) (by kernel_rfl) (p := (b464, 0)) rfl rfl c481 w hw) ?_
                        refine SOps.litAppend (E := 36) (z := .agg #[.int .i64 0, .int .i64 0, .string ByteArray.empty, .bool false]) (size := 4) (bytes := 40) (cs := #[.int .i64 x477, .int .i64 x478, .string s479, .bool q480]) rfl rfl (wantN rfl) (fun _ => by kernel_rfl) rfl rfl (fun _ => wantN rfl) Tryd.underlying26 Tryd.underlying26 (by kernel_rfl) rfl rfl (fun _ => rfl) (AppendQ.mono h ?_)
                        clear h
                        intro l482 H483 h b484
                        slimval (sv l482)
                        refine SOps.nil ?_
                        exact ⟨_, p444, l445, b446, l482, l448, x449, x450, l451, x452, x453, Fr.upds_self _ _ ⟨rfl, rfl, rfl, rfl, rfl, rfl, rfl, rfl, rfl, rfl, trivial⟩, h⟩
                       ·replace h := h.2 c476
                        have dc476 : (x472 != x474) = false := (by simpa using c476)
                        refine SW.cond_f (t := (x472 != x474)) rfl dc476 ?_
                        refine SW.skip ?_
                        exact ⟨_, p444, l445, b446, l447, l448, x449, x450, l451, x452, x453, Fr.upds_self _ _ ⟨rfl, rfl, rfl, rfl, rfl, rfl, rfl, rfl, rfl, rfl, trivial⟩, h⟩
                      ·replace h := h.2 c471
                       have dc471 : (x467 != x469) = false := (by simpa using c471)
                       refine SOps.off rfl (wantX (c := (x467 != x469)) rfl rfl rfl dc471) ?_
                       refine SOps.off rfl (wantX (c := (x467 != x469)) rfl rfl rfl dc471) ?_
                       refine SOps.off rfl (wantX (c := (x467 != x469)) rfl rfl rfl dc471) ?_
                       refine SOps.off rfl (wantX (c := (x467 != x469)) rfl rfl rfl dc471) ?_
                       refine SOps.off rfl (wantX (c := (x467 != x469)) rfl rfl rfl dc471) ?_
                       refine SOps.off rfl (wantX (c := (x467 != x469)) rfl rfl rfl dc471) ?_
                       refine SOps.val (v := .bool false) rfl (wantN rfl) (fun w => ev_pickF (v := .bool false) rfl (t := (x467 != x469)) rfl dc471 rfl w) ?_
                       refine SOps.nil ?_
                       refine SW.cond_f (t := false) rfl rfl ?_
                       refine SW.skip ?_
                       exact ⟨_, p444, l445, b446, l447, l448, x449, x450, l451, x452, x453, Fr.upds_self _ _ ⟨rfl, rfl, rfl, rfl, rfl, rfl, rfl, rfl, rfl, rfl, trivial⟩, h⟩
                   ·replace h := h.2 c454
                    have dc454 : (decide (x453 < x452)) = false := (decide_eq_false c454)
                    refine SW.cond_f (t := decide (x453 < x452)) rfl dc454 ?_
                    refine SW.exit ?_
                    refine SW.seq ?_
                    refine SW.seq ?_
                    refine SW.region ?_
                    slimval (pv p444)
                    slimval (pv (some (b446, 1)))
                    obtain ⟨x507, c508, h⟩ := h
                    refine SOps.rd (v := .int .i64 x507) rfl (wantN rfl) (fun w hw => ev_load1 rfl (fun _ => by kernel_rfl) (p := (b446, 1)) rfl c508 w hw) ?_
                    refine SOps.enter rfl (wantN rfl) (fun _ => by kernel_rfl) (net_Net_Clear.sound F p444 x507 H _ h) ?_
                    clear h
                    rintro v H510 ⟨x509, rfl, h⟩
                    slimval (sv l445)
                    slimval (.int .i64 (l445.len : Int))
                    slimval (sv l447)
                    slimval (.int .i64 (l447.len : Int))
                    slimval (.int .i64 (w64 ((l445.len : Int) - (l447.len : Int))))
                    slimval (.bool (x509 != (w64 ((l445.len : Int) - (l447.len : Int)))))
                    refine SOps.nil ?_
                    by_cases c511 : x509 ≠ (w64 ((l445.len : Int) - (l447.len : Int)))
                    ·replace h := h.1 c511
                     have dc511 : (x509 != (w64 ((l445.len : Int) - (l447.len : Int)))) = true := (bne_iff_ne.mpr c511)
                     refine SW.cond_t (t := (x509 != (w64 ((l445.len : Int) - (l447.len : Int))))) rfl dc511 ?_
                     refine SW.seq ?_
                     refine SW.region ?_
                     slimval (.bool false)
                     refine SOps.nil ?_
                     obtain ⟨Hr, hr, h⟩ := h
                     exact SW.ret (retQ.mk (.bool false) (res1 rfl rfl) hr ⟨false, rfl, h⟩)
                    ·replace h := h.2 c511
                     have dc511 : (x509 != (w64 ((l445.len : Int) - (l447.len : Int)))) = false := (by simpa using c511)
                     refine SW.cond_f (t := (x509 != (w64 ((l445.len : Int) - (l447.len : Int))))) rfl dc511 ?_
                     refine SW.skip ?_
                     refine SW.region ?_
                     slimval (sv l447)
                     slimval (sv l447)
                     refine SOps.nil ?_
                     exact ⟨_, p444, l447, l448, x449, x450, Fr.upds_self _ _ ⟨rfl, rfl, rfl, rfl, rfl, trivial⟩, h⟩
                 ·replace h := h.2 c443
                  have dc443 : (x107 == 7) = false := (beq_eq_false_iff_ne.mpr c443)
                  refine SW.cond_f (t := (x107 == 7)) rfl dc443 ?_
                  refine SW.skip ?_
                  exact ⟨_, p99, l100, l104, x105, x106, Fr.upds_self _ _ ⟨rfl, rfl, rfl, rfl, rfl, trivial⟩, h⟩
           ·skip
            refine SW.seq ?_
            refine SW.region ?_
            slimval (.bool (x44 == 1))
            slimval (.bool (x44 == 1))
            refine SOps.nil ?_
            by_cases c98 : x44 = 1
            ·replace h := h.1 c98
             have dc98 : (x44 == 1) = true := (beq_iff_eq.mpr c98)
             refine SW.cond_t (t := (x44 == 1)) rfl dc98 ?_
             refine SW.skip ?_
             exact ⟨_, p36, l37, b38, q39, x40, l41, x42, x43, x44, (x44 == 1), Fr.upds_self _ _ ⟨rfl, rfl, rfl, rfl, rfl, rfl, rfl, rfl, rfl, rfl, trivial⟩, h⟩
            ·replace h := h.2 c98
             have dc98 : (x44 == 1) = false := (beq_eq_false_iff_ne.mpr c98)
             refine SW.cond_f (t := (x44 == 1)) rfl dc98 ?_
             refine SW.region ?_
             slimval (.bool (x44 == 2))
             slimval (.bool (x44 == 2))
             refine SOps.nil ?_
             exact ⟨_, p36, l37, b38, q39, x40, l41, x42, x43, x44, (x44 == 2), Fr.upds_self _ _ ⟨rfl, rfl, rfl, rfl, rfl, rfl, rfl, rfl, rfl, rfl, trivial⟩, h⟩
       ·skip
        refine SW.seq ?_
        refine SW.region ?_
        slimval (.bool (decide (x33 < (l9.len : Int))))
        refine SOps.nil ?_
        by_cases c35 : x33 < (l9.len : Int)
        ·replace h := h.1 c35
         have dc35 : (decide (x33 < (l9.len : Int))) = true := (decide_eq_true c35)
         refine SW.cond_t (t := decide (x33 < (l9.len : Int))) rfl dc35 ?_
         refine SW.region ?_
         slimval (.int .i64 0)
         refine SOps.nil ?_
         exact ⟨_, p8, l9, b24, decide (x33 < (l9.len : Int)), 0, l10, x11, x12, Fr.upds_self _ _ ⟨rfl, rfl, rfl, rfl, rfl, rfl, rfl, rfl, trivial⟩, h⟩
        ·replace h := h.2 c35
         have dc35 : (decide (x33 < (l9.len : Int))) = false := (decide_eq_false c35)
         refine SW.cond_f (t := decide (x33 < (l9.len : Int))) rfl dc35 ?_
         refine SW.skip ?_
         exact ⟨_, p8, l9, b24, decide (x33 < (l9.len : Int)), 9, l10, x11, x12, Fr.upds_self _ _ ⟨rfl, rfl, rfl, rfl, rfl, rfl, rfl, rfl, trivial⟩, h⟩
      ·replace h := h.2 c32
       have dc32 : (decide (x30 ≥ 0)) = false := (decide_eq_false c32)
       refine SOps.off rfl (wantX (c := decide (x30 ≥ 0)) rfl rfl rfl dc32) ?_
       refine SOps.off rfl (wantX (c := decide (x30 ≥ 0)) rfl rfl rfl dc32) ?_
       refine SOps.off rfl (wantX (c := decide (x30 ≥ 0)) rfl rfl rfl dc32) ?_
       refine SOps.off rfl (wantX (c := decide (x30 ≥ 0)) rfl rfl rfl dc32) ?_
       refine SOps.off rfl (wantX (c := decide (x30 ≥ 0)) rfl rfl rfl dc32) ?_
       refine SOps.val (v := .bool false) rfl (wantN rfl) (fun w => ev_pickF (v := .bool false) rfl (t := decide (x30 ≥ 0)) rfl dc32 rfl w) ?_
       slimval (.bool false)
       refine SOps.nil ?_
       refine SW.seq ?_
       refine SW.region ?_
       slimval (.int .i64 9)
       refine SOps.nil ?_
       refine SW.seqJ (fun fr H => ∃ (g : Fr) (p564 : Option (Nat × Nat)) (l565 : Sl) (b566 : Nat) (x567 : Int) (l568 : Sl) (x569 : Int) (x570 : Int), fr = g.upds [(3, pv p564), (4, sv l565), (6, pv (some (b566, 0))), (7, (.bool false : Value)), (8, (.int .i64 x567 : Value)), (29, sv l568), (30, (.int .i64 x569 : Value)), (31, (.int .i64 x570 : Value))] ∧ ladinglaw19_NetPlays.j12 F K (ladinglaw19_NetPlays.l1 F K k1) p564 l565 b566 x567 l568 x569 x570 H) ?_ ?_
       ·clear h
        rintro fr H ⟨g, p564, l565, b566, x567, l568, x569, x570, rfl, h⟩
        unfold ladinglaw19_NetPlays.j12 at h
        refine SW.seqJ (fun fr H => ∃ (g : Fr) (p869 : Option (Nat × Nat)) (l870 : Sl) (l871 : Sl) (x872 : Int) (x873 : Int), fr = g.upds [(3, pv p869), (4, sv l870), (29, sv l871), (30, (.int .i64 x872 : Value)), (31, (.int .i64 x873 : Value))] ∧ ladinglaw19_NetPlays.j13 F K (ladinglaw19_NetPlays.l1 F K k1) p869 l870 l871 x872 x873 H) ?_ ?_
        ·clear h
         rintro fr H ⟨g, p869, l870, l871, x872, x873, rfl, h⟩
         unfold ladinglaw19_NetPlays.j13 at h
         refine SW.seq ?_
         refine SW.region ?_
         slimval (pv p869)
         refine SOps.enter rfl (wantN rfl) (fun _ => by kernel_rfl) (net_Net_All.sound F p869 H _ h) ?_
         clear h
         rintro v H876 ⟨l875, rfl, h⟩
         slimval (sv l875)
         refine SOps.nil ?_
         refine SW.seq ?_
         refine SW.seq ?_
         refine SW.region ?_
         slimval (pv p869)
         refine SOps.enter rfl (wantN rfl) (fun _ => by kernel_rfl) (net_Net_Len.sound F p869 H876 _ h) ?_
         clear h
         rintro v H878 ⟨x877, rfl, h⟩
         slimval (sv l870)
         slimval (.int .i64 (l870.len : Int))
         slimval (.bool (x877 != (l870.len : Int)))
         slimval (.bool (x877 != (l870.len : Int)))
         by_cases c879 : x877 ≠ (l870.len : Int)
         ·replace h := h.1 c879
          have dc879 : (x877 != (l870.len : Int)) = true := (bne_iff_ne.mpr c879)
          refine SOps.off rfl (wantX (c := (x877 != (l870.len : Int))) rfl rfl rfl dc879) ?_
          refine SOps.off rfl (wantX (c := (x877 != (l870.len : Int))) rfl rfl rfl dc879) ?_
          refine SOps.off rfl (wantX (c := (x877 != (l870.len : Int))) rfl rfl rfl dc879) ?_
          refine SOps.off rfl (wantX (c := (x877 != (l870.len : Int))) rfl rfl rfl dc879) ?_
          refine SOps.off rfl (wantX (c := (x877 != (l870.len : Int))) rfl rfl rfl dc879) ?_
          refine SOps.val (v := .bool true) rfl (wantN rfl) (fun w => ev_pickT (v := .bool true) rfl (t := (x877 != (l870.len : Int))) rfl dc879 rfl w) ?_
          refine SOps.nil ?_
          refine SW.cond_t (t := true) rfl rfl ?_
          refine SW.seq ?_
          refine SW.region ?_
          slimval (.bool false)
          refine SOps.nil ?_
          obtain ⟨Hr, hr, h⟩ := h
          exact SW.ret (retQ.mk (.bool false) (res1 rfl rfl) hr ⟨false, rfl, h⟩)
         ·replace h := h.2 c879
          have dc879 : (x877 != (l870.len : Int)) = false := (by simpa using c879)
          refine SOps.val (v := sv l875) rfl (wantY (c := (x877 != (l870.len : Int))) rfl rfl rfl dc879) (fun _ => by kernel_rfl) ?_
          refine SOps.val (v := .int .i64 (l875.len : Int)) rfl (wantY (c := (x877 != (l870.len : Int))) rfl rfl rfl dc879) (fun _ => by kernel_rfl) ?_
          refine SOps.val (v := sv l870) rfl (wantY (c := (x877 != (l870.len : Int))) rfl rfl rfl dc879) (fun _ => by kernel_rfl) ?_
          refine SOps.val (v := .int .i64 (l870.len : Int)) rfl (wantY (c := (x877 != (l870.len : Int))) rfl rfl rfl dc879) (fun _ => by kernel_rfl) ?_
          refine SOps.val (v := .bool ((l875.len : Int) != (l870.len : Int))) rfl (wantY (c := (x877 != (l870.len : Int))) rfl rfl rfl dc879) (fun _ => by kernel_rfl) ?_
          refine SOps.val (v := .bool ((l875.len : Int) != (l870.len : Int))) rfl (wantN rfl) (fun w => ev_pickF (v := .bool ((l875.len : Int) != (l870.len : Int))) rfl (t := (x877 != (l870.len : Int))) rfl dc879 rfl w) ?_
          refine SOps.nil ?_
          by_cases c880 : (l875.len : Int) ≠ (l870.len : Int)
          ·replace h := h.1 c880
           have dc880 : ((l875.len : Int) != (l870.len : Int)) = true := (bne_iff_ne.mpr c880)
           refine SW.cond_t (t := ((l875.len : Int) != (l870.len : Int))) rfl dc880 ?_
           refine SW.seq ?_
           refine SW.region ?_
           slimval (.bool false)
           refine SOps.nil ?_
           obtain ⟨Hr, hr, h⟩ := h
           exact SW.ret (retQ.mk (.bool false) (res1 rfl rfl) hr ⟨false, rfl, h⟩)
          ·replace h := h.2 c880
           have dc880 : ((l875.len : Int) != (l870.len : Int)) = false := (by simpa using c880)
           refine SW.cond_f (t := ((l875.len : Int) != (l870.len : Int))) rfl dc880 ?_
           refine SW.skip ?_
           refine SW.seq ?_
           refine SW.region ?_
           slimval (sv l875)
           slimval (.int .i64 (l875.len : Int))
           slimval (.int .i64 0)
           refine SOps.nil ?_
           refine SW.block ?_
           refine SW.loop (fun k5 fr H => ∃ (g : Fr) (p881 : Option (Nat × Nat)) (l882 : Sl) (l883 : Sl) (x884 : Int) (x885 : Int) (l886 : Sl) (x887 : Int) (x888 : Int), fr = g.upds [(3, pv p881), (4, sv l882), (29, sv l883), (30, (.int .i64 x884 : Value)), (31, (.int .i64 x885 : Value)), (386, sv l886), (387, (.int .i64 x887 : Value)), (388, (.int .i64 x888 : Value))] ∧ ladinglaw19_NetPlays.l5 F K (ladinglaw19_NetPlays.l1 F K k1) k5 p881 l882 l883 x884 x885 l886 x887 x888 H) F ⟨_, p869, l870, l871, x872, x873, l875, (l875.len : Int), 0, (Fr.upds_self _ _ ⟨rfl, rfl, rfl, rfl, rfl, rfl, rfl, rfl, trivial⟩), h⟩ ?_
           clear h
           rintro k5 fr H ⟨g, p881, l882, l883, x884, x885, l886, x887, x888, rfl, h⟩
           cases k5 with
           | zero => exact h.elim
           | succ k5 =>
            replace h : ladinglaw19_NetPlays.r5 F K (ladinglaw19_NetPlays.l1 F K k1) (ladinglaw19_NetPlays.l5 F K (ladinglaw19_NetPlays.l1 F K k1) k5) p881 l882 l883 x884 x885 l886 x887 x888 H := h
            unfold ladinglaw19_NetPlays.r5 at h
            refine SW.seq ?_
            refine SW.region ?_
            slimval (.bool (decide (x888 < x887)))
            refine SOps.nil ?_
            refine SW.seq ?_
            by_cases c889 : x888 < x887
            ·replace h := h.1 c889
             have dc889 : (decide (x888 < x887)) = true := (decide_eq_true c889)
             refine SW.cond_t (t := decide (x888 < x887)) rfl dc889 ?_
             refine SW.skip ?_
             refine SW.seq ?_
             refine SW.block ?_
             refine SW.seq ?_
             refine SW.region ?_
             slimval (.int .i64 x888)
             obtain ⟨p890, c891, c892, c893, h⟩ := h
             refine SOps.val (v := pv (some (p890.1, (p890.2 + x888.toNat * 3)))) rfl (wantN rfl) (fun w => ev_iaddr rfl Tryd.underlying44 (size := 3) (by kernel_rfl) rfl rfl c891 c892 c893 w) ?_
             obtain ⟨x894, x895, s896, c897, h⟩ := h
             refine SOps.rd (v := .agg #[.int .i64 x894, .int .i64 x895, .string s896]) rfl (wantN rfl) (fun w hw => ev_loadN rfl (fun _ => by kernel_rfl) (size := 3) (by kernel_rfl) (p := (p890.1, (p890.2 + x888.toNat * 3))) rfl rfl c897 w hw) ?_
             refine SOps.alloc rfl rfl (wantN rfl) (z := .agg #[.int .i64 0, .int .i64 0, .string ByteArray.empty]) (by kernel_rfl) (fun b898 c899 => ?_)
             replace h := h b898 c899
             slimval (.int .i64 x888)
             obtain ⟨c900, h⟩ := h
             refine SOps.storeL (p := (b898, 0)) (v := .agg #[.int .i64 x894, .int .i64 x895, .string s896]) (cs := [.int .i64 x894, .int .i64 x895, .string s896]) rfl rfl (wantN rfl) (size := 3) (by kernel_rfl) rfl rfl rfl rfl (by simp [Value.oneCell', errV_one, pv, sv]) c900 ?_
             refine SOps.nil ?_
             refine SW.seq ?_
             refine SW.draw (by kernel_rfl) (by kernel_rfl) ?_
             obtain ⟨x901, x902, s903, c904, h⟩ := h
             refine SQ.rd (v := .agg #[.int .i64 x901, .int .i64 x902, .string s903]) rfl (wantN rfl) (fun w hw => ev_loadN rfl (fun _ => by kernel_rfl) (size := 3) (by kernel_rfl) (p := (b898, 0)) rfl rfl c904 w hw) ?_
             refine SQ.val (v := sv l882) rfl (wantN rfl) (fun _ => by kernel_rfl) ?_
             refine SQ.val (v := .int .i64 x888) rfl (wantN rfl) (fun _ => by kernel_rfl) ?_
             obtain ⟨p905, c906, c907, c908, h⟩ := h
             refine SQ.val (v := pv (some (p905.1, (p905.2 + x888.toNat * 4)))) rfl (wantN rfl) (fun w => ev_iaddr rfl Tryd.underlying26 (size := 4) (by kernel_rfl) rfl rfl c906 c907 c908 w) ?_
             refine SQ.val (v := pv (some (p905.1, (p905.2 + x888.toNat * 4)))) rfl (wantN rfl) (fun _ => by kernel_rfl) ?_
             obtain ⟨x909, x910, s911, c912, h⟩ := h
             refine SQ.rd (v := .agg #[.int .i64 x909, .int .i64 x910, .string s911]) rfl (wantN rfl) (fun w hw => ev_loadN rfl (fun _ => by kernel_rfl) (size := 3) (by kernel_rfl) (p := (p905.1, (p905.2 + x888.toNat * 4))) rfl rfl c912 w hw) ?_
             refine SQ.val (v := .bool (!decide (x901 = x909 ∧ x902 = x910 ∧ s903 = s911))) rfl (wantN rfl) (fun w => ev_pktNe rfl rfl rfl w) ?_
             refine SQ.nil ?_
             by_cases c913 : (x901 = x909 ∧ x902 = x910 ∧ s903 = s911)
             ·replace h := h.1 c913
              have dc913 : (decide (x901 = x909 ∧ x902 = x910 ∧ s903 = s911)) = true := (decide_eq_true c913)
              refine SW.cond_f (t := !decide (x901 = x909 ∧ x902 = x910 ∧ s903 = s911)) rfl (not_t dc913) ?_
              refine SW.skip ?_
              refine SW.region ?_
              slimval (.int .i64 (w64 (x888 + 1)))
              slimval (.int .i64 (w64 (x888 + 1)))
              refine SOps.nil ?_
              exact ⟨k5, Nat.lt_succ_self k5, _, p881, l882, l883, x884, x885, l886, x887, w64 (x888 + 1), (Fr.upds_self _ _ ⟨rfl, rfl, rfl, rfl, rfl, rfl, rfl, rfl, trivial⟩), h⟩
             ·replace h := h.2 c913
              have dc913 : (decide (x901 = x909 ∧ x902 = x910 ∧ s903 = s911)) = false := (decide_eq_false c913)
              refine SW.cond_t (t := !decide (x901 = x909 ∧ x902 = x910 ∧ s903 = s911)) rfl (not_f dc913) ?_
              refine SW.seq ?_
              refine SW.region ?_
              slimval (.bool false)
              refine SOps.nil ?_
              obtain ⟨Hr, hr, h⟩ := h
              exact SW.ret (retQ.mk (.bool false) (res1 rfl rfl) hr ⟨false, rfl, h⟩)
            ·replace h := h.2 c889
             have dc889 : (decide (x888 < x887)) = false := (decide_eq_false c889)
             refine SW.cond_f (t := decide (x888 < x887)) rfl dc889 ?_
             refine SW.exit ?_
             refine SW.region ?_
             slimval (.int .i64 (w64 (x885 + 1)))
             slimval (.int .i64 (w64 (x885 + 1)))
             refine SOps.nil ?_
             exact ⟨k1, Nat.lt_succ_self k1, _, p881, l882, l883, x884, w64 (x885 + 1), (Fr.upds_self _ _ ⟨rfl, rfl, rfl, rfl, rfl, trivial⟩), h⟩
        ·skip
         refine SW.seq ?_
         refine SW.region ?_
         slimval (pv (some (b566, 0)))
         obtain ⟨x571, c572, h⟩ := h
         refine SOps.rd (v := .int .i64 x571) rfl (wantN rfl) (fun w hw => ev_load1 rfl (fun _ => by kernel_rfl) (p := (b566, 0)) rfl c572 w hw) ?_
         refine SOps.nil ?_
         refine SW.blockJ (fun fr H => ∃ (g : Fr) (p619 : Option (Nat × Nat)) (l620 : Sl) (l621 : Sl) (x622 : Int) (x623 : Int), fr = g.upds [(3, pv p619), (4, sv l620), (29, sv l621), (30, (.int .i64 x622 : Value)), (31, (.int .i64 x623 : Value))] ∧ ladinglaw19_NetPlays.j14 F K (ladinglaw19_NetPlays.l1 F K k1) p619 l620 l621 x622 x623 H) ?_ ?_
         ·clear h
          rintro fr H ⟨g, p619, l620, l621, x622, x623, rfl, h⟩
          unfold ladinglaw19_NetPlays.j14 at h
          exact ⟨_, p619, l620, l621, x622, x623, Fr.upds_self _ _ ⟨rfl, rfl, rfl, rfl, rfl, trivial⟩, h⟩
         ·skip
          refine SW.seq ?_
          refine SW.region ?_
          slimval (.bool (x571 == 0))
          slimval (.bool (x571 == 0))
          refine SOps.nil ?_
          by_cases c573 : x571 = 0
          ·replace h := h.1 c573
           have dc573 : (x571 == 0) = true := (beq_iff_eq.mpr c573)
           refine SW.cond_t (t := (x571 == 0)) rfl dc573 ?_
           refine SW.seq ?_
           refine SW.region ?_
           slimval (.int .i64 0)
           refine SOps.nil ?_
           refine SW.seqJ (fun fr H => ∃ (g : Fr) (p577 : Option (Nat × Nat)) (l578 : Sl) (b579 : Nat) (x580 : Int) (l581 : Sl) (x582 : Int) (x583 : Int), fr = g.upds [(3, pv p577), (4, sv l578), (6, pv (some (b579, 0))), (9, (.int .i64 x580 : Value)), (29, sv l581), (30, (.int .i64 x582 : Value)), (31, (.int .i64 x583 : Value))] ∧ ladinglaw19_NetPlays.j15 F K (ladinglaw19_NetPlays.l1 F K k1) p577 l578 b579 x580 l581 x582 x583 H) ?_ ?_
           ·clear h
            rintro fr H ⟨g, p577, l578, b579, x580, l581, x582, x583, rfl, h⟩
            unfold ladinglaw19_NetPlays.j15 at h
            refine SW.seq ?_
            refine SW.seq ?_
            refine SW.region ?_
            slimval (pv p577)
            slimval (pv (some (b579, 1)))
            obtain ⟨x598, c599, h⟩ := h
            refine SOps.rd (v := .int .i64 x598) rfl (wantN rfl) (fun w hw => ev_load1 rfl (fun _ => by kernel_rfl) (p := (b579, 1)) rfl c599 w hw) ?_
            slimval (pv (some (b579, 2)))
            obtain ⟨x600, c601, h⟩ := h
            refine SOps.rd (v := .int .i64 x600) rfl (wantN rfl) (fun w hw => ev_load1 rfl (fun _ => by kernel_rfl) (p := (b579, 2)) rfl c601 w hw) ?_
            slimval (pv (some (b579, 4)))
            obtain ⟨s602, c603, h⟩ := h
            refine SOps.rd (v := .string s602) rfl (wantN rfl) (fun w hw => ev_load1 rfl (fun _ => by kernel_rfl) (p := (b579, 4)) rfl c603 w hw) ?_
            refine SOps.enter rfl (wantN rfl) (fun _ => by kernel_rfl) (net_Net_Send.sound F p577 x598 x600 s602 H _ h) ?_
            clear h
            rintro v H605 ⟨e604, rfl, h⟩
            refine SOps.enter rfl (wantN rfl) (fun _ => by kernel_rfl) (api_Code.sound F e604 H605 _ h) ?_
            clear h
            rintro v H607 ⟨x606, rfl, h⟩
            slimval (.int .i64 x580)
            slimval (.bool (x606 != x580))
            refine SOps.nil ?_
            by_cases c608 : x606 ≠ x580
            ·replace h := h.1 c608
             have dc608 : (x606 != x580) = true := (bne_iff_ne.mpr c608)
             refine SW.cond_t (t := (x606 != x580)) rfl dc608 ?_
             refine SW.seq ?_
             refine SW.region ?_
             slimval (.bool false)
             refine SOps.nil ?_
             obtain ⟨Hr, hr, h⟩ := h
             exact SW.ret (retQ.mk (.bool false) (res1 rfl rfl) hr ⟨false, rfl, h⟩)
            ·replace h := h.2 c608
             have dc608 : (x606 != x580) = false := (by simpa using c608)
             refine SW.cond_f (t := (x606 != x580)) rfl dc608 ?_
             refine SW.skip ?_
             refine SW.seq ?_
             refine SW.region ?_
             slimval (.int .i64 x580)
             slimval (.bool (x580 == 0))
             refine SOps.nil ?_
             by_cases c609 : x580 = 0
             ·replace h := h.1 c609
              have dc609 : (x580 == 0) = true := (beq_iff_eq.mpr c609)
              refine SW.cond_t (t := (x580 == 0)) rfl dc609 ?_
              refine SW.region ?_
              slimval (sv l578)
              slimval (pv (some (b579, 1)))
              obtain ⟨x610, c611, h⟩ := h
              refine SOps.rd (v := .int .i64 x610) rfl (wantN rfl) (fun w hw => ev_load1 rfl (fun _ => by kernel_rfl) (p := (b579, 1)) rfl c611 w hw) ?_
              slimval (pv (some (b579, 2)))
              obtain ⟨x612, c613, h⟩ := h
              refine SOps.rd (v := .int .i64 x612) rfl (wantN rfl) (fun w hw => ev_load1 rfl (fun _ => by kernel_rfl) (p := (b579, 2)) rfl c613 w hw) ?_
              slimval (pv (some (b579, 4)))
              obtain ⟨s614, c615, h⟩ := h
              refine SOps.rd (v := .string s614) rfl (wantN rfl) (fun w hw => ev_load1 rfl (fun _ => by kernel_rfl) (p := (b579, 4)) rfl c615 w hw) ?_
              slimval (.agg #[.int .i64 x610, .int .i64 x612, .string s614])
              slimval (.agg #[.int .i64 x610, .int .i64 x612, .string s614, .bool false])
              refine SOps.litAppend (E := 36) (z := .agg #[.int .i64 0, .int .i64 0, .string ByteArray.empty, .bool false]) (size := 4) (bytes := 40) (cs := #[.int .i64 x610, .int .i64 x612, .string s614, .bool false]) rfl rfl (wantN rfl) (fun _ => by kernel_rfl) rfl rfl (fun _ => wantN rfl) Tryd.underlying26 Tryd.underlying26 (by kernel_rfl) rfl rfl (fun _ => rfl) (AppendQ.mono h ?_)
              clear h
              intro l616 H617 h b618
              slimval (sv l616)
              refine SOps.nil ?_
              exact ⟨_, p577, l616, l581, x582, x583, Fr.upds_self _ _ ⟨rfl, rfl, rfl, rfl, rfl, trivial⟩, h⟩
             ·replace h := h.2 c609
              have dc609 : (x580 == 0) = false := (beq_eq_false_iff_ne.mpr c609)
              refine SW.cond_f (t := (x580 == 0)) rfl dc609 ?_
              refine SW.skip ?_
              exact ⟨_, p577, l578, l581, x582, x583, Fr.upds_self _ _ ⟨rfl, rfl, rfl, rfl, rfl, trivial⟩, h⟩
           ·skip
            refine SW.seq ?_
            refine SW.region ?_
            slimval (pv (some (b566, 1)))
            obtain ⟨x574, c575, h⟩ := h
            refine SOps.rd (v := .int .i64 x574) rfl (wantN rfl) (fun w hw => ev_load1 rfl (fun _ => by kernel_rfl) (p := (b566, 1)) rfl c575 w hw) ?_
            slimval (.bool (decide (x574 < 0)))
            slimval (.bool (decide (x574 < 0)))
            by_cases c576 : x574 < 0
            ·replace h := h.1 c576
             have dc576 : (decide (x574 < 0)) = true := (decide_eq_true c576)
             refine SOps.off rfl (wantX (c := decide (x574 < 0)) rfl rfl rfl dc576) ?_
             refine SOps.off rfl (wantX (c := decide (x574 < 0)) rfl rfl rfl dc576) ?_
             refine SOps.off rfl (wantX (c := decide (x574 < 0)) rfl rfl rfl dc576) ?_
             refine SOps.val (v := .bool true) rfl (wantN rfl) (fun w => ev_pickT (v := .bool true) rfl (t := decide (x574 < 0)) rfl dc576 rfl w) ?_
             slimval (.bool true)
             refine SOps.off rfl (wantX (c := true) rfl rfl rfl rfl) ?_
             refine SOps.off rfl (wantX (c := true) rfl rfl rfl rfl) ?_
             refine SOps.off rfl (wantX (c := true) rfl rfl rfl rfl) ?_
             refine SOps.val (v := .bool true) rfl (wantN rfl) (fun w => ev_pickT (v := .bool true) rfl (t := true) rfl rfl rfl w) ?_
             slimval (.bool true)
             refine SOps.off rfl (wantX (c := true) rfl rfl rfl rfl) ?_
             refine SOps.off rfl (wantX (c := true) rfl rfl rfl rfl) ?_
             refine SOps.off rfl (wantX (c := true) rfl rfl rfl rfl) ?_
             refine SOps.val (v := .bool true) rfl (wantN rfl) (fun w => ev_pickT (v := .bool true) rfl (t := true) rfl rfl rfl w) ?_
             slimval (.bool true)
             refine SOps.off rfl (wantX (c := true) rfl rfl rfl rfl) ?_
             refine SOps.off rfl (wantX (c := true) rfl rfl rfl rfl) ?_
             refine SOps.off rfl (wantX (c := true) rfl rfl rfl rfl) ?_
             refine SOps.off rfl (wantX (c := true) rfl rfl rfl rfl) ?_
             refine SOps.off rfl (wantX (c := true) rfl rfl rfl rfl) ?_
             refine SOps.val (v := .bool true) rfl (wantN rfl) (fun w => ev_pickT (v := .bool true) rfl (t := true) rfl rfl rfl w) ?_
             refine SOps.nil ?_
             refine SW.cond_t (t := true) rfl rfl ?_
             refine SW.region ?_
             slimval (.int .i64 1)
             refine SOps.nil ?_
             exact ⟨_, p564, l565, b566, 1, l568, x569, x570, Fr.upds_self _ _ ⟨rfl, rfl, rfl, rfl, rfl, rfl, rfl, trivial⟩, h⟩
            ·replace h := h.2 c576
             have dc576 : (decide (x574 < 0)) = false := (decide_eq_false c576)
             refine SOps.val (v := pv (some (b566, 1))) rfl (wantY (c := decide (x574 < 0)) rfl rfl rfl dc576) (fun _ => by kernel_rfl) ?_
             obtain ⟨x584, c585, h⟩ := h
             refine SOps.rd (v := .int .i64 x584) rfl (wantY (c := decide (x574 < 0)) rfl rfl rfl dc576) (fun w hw => ev_load1 rfl (fun _ => by kernel_rfl) (p := (b566, 1)) rfl c585 w hw) ?_
             refine SOps.val (v := .bool (decide (x584 > 5))) rfl (wantY (c := decide (x574 < 0)) rfl rfl rfl dc576) (fun _ => by kernel_rfl) ?_
             refine SOps.val (v := .bool (decide (x584 > 5))) rfl (wantN rfl) (fun w => ev_pickF (v := .bool (decide (x584 > 5))) rfl (t := decide (x574 < 0)) rfl dc576 rfl w) ?_
             slimval (.bool (decide (x584 > 5)))
             by_cases c586 : x584 > 5
             ·replace h := h.1 c586
              have dc586 : (decide (x584 > 5)) = true := (decide_eq_true c586)
              refine SOps.off rfl (wantX (c := decide (x584 > 5)) rfl rfl rfl dc586) ?_
              refine SOps.off rfl (wantX (c := decide (x584 > 5)) rfl rfl rfl dc586) ?_
              refine SOps.off rfl (wantX (c := decide (x584 > 5)) rfl rfl rfl dc586) ?_
              refine SOps.val (v := .bool true) rfl (wantN rfl) (fun w => ev_pickT (v := .bool true) rfl (t := decide (x584 > 5)) rfl dc586 rfl w) ?_
              slimval (.bool true)
              refine SOps.off rfl (wantX (c := true) rfl rfl rfl rfl) ?_
              refine SOps.off rfl (wantX (c := true) rfl rfl rfl rfl) ?_
              refine SOps.off rfl (wantX (c := true) rfl rfl rfl rfl) ?_
              refine SOps.val (v := .bool true) rfl (wantN rfl) (fun w => ev_pickT (v := .bool true) rfl (t := true) rfl rfl rfl w) ?_
              slimval (.bool true)
              refine SOps.off rfl (wantX (c := true) rfl rfl rfl rfl) ?_
              refine SOps.off rfl (wantX (c := true) rfl rfl rfl rfl) ?_
              refine SOps.off rfl (wantX (c := true) rfl rfl rfl rfl) ?_
              refine SOps.off rfl (wantX (c := true) rfl rfl rfl rfl) ?_
              refine SOps.off rfl (wantX (c := true) rfl rfl rfl rfl) ?_
              refine SOps.val (v := .bool true) rfl (wantN rfl) (fun w => ev_pickT (v := .bool true) rfl (t := true) rfl rfl rfl w) ?_
              refine SOps.nil ?_
              refine SW.cond_t (t := true) rfl rfl ?_
              refine SW.region ?_
              slimval (.int .i64 1)
              refine SOps.nil ?_
              exact ⟨_, p564, l565, b566, 1, l568, x569, x570, Fr.upds_self _ _ ⟨rfl, rfl, rfl, rfl, rfl, rfl, rfl, trivial⟩, h⟩
             ·replace h := h.2 c586
              have dc586 : (decide (x584 > 5)) = false := (decide_eq_false c586)
              refine SOps.val (v := pv (some (b566, 2))) rfl (wantY (c := decide (x584 > 5)) rfl rfl rfl dc586) (fun _ => by kernel_rfl) ?_
              obtain ⟨x587, c588, h⟩ := h
              refine SOps.rd (v := .int .i64 x587) rfl (wantY (c := decide (x584 > 5)) rfl rfl rfl dc586) (fun w hw => ev_load1 rfl (fun _ => by kernel_rfl) (p := (b566, 2)) rfl c588 w hw) ?_
              refine SOps.val (v := .bool (decide (x587 < 0))) rfl (wantY (c := decide (x584 > 5)) rfl rfl rfl dc586) (fun _ => by kernel_rfl) ?_
              refine SOps.val (v := .bool (decide (x587 < 0))) rfl (wantN rfl) (fun w => ev_pickF (v := .bool (decide (x587 < 0))) rfl (t := decide (x584 > 5)) rfl dc586 rfl w) ?_
              slimval (.bool (decide (x587 < 0)))
              by_cases c589 : x587 < 0
              ·replace h := h.1 c589
               have dc589 : (decide (x587 < 0)) = true := (decide_eq_true c589)
               refine SOps.off rfl (wantX (c := decide (x587 < 0)) rfl rfl rfl dc589) ?_
               refine SOps.off rfl (wantX (c := decide (x587 < 0)) rfl rfl rfl dc589) ?_
               refine SOps.off rfl (wantX (c := decide (x587 < 0)) rfl rfl rfl dc589) ?_
               refine SOps.val (v := .bool true) rfl (wantN rfl) (fun w => ev_pickT (v := .bool true) rfl (t := decide (x587 < 0)) rfl dc589 rfl w) ?_
               slimval (.bool true)
               refine SOps.off rfl (wantX (c := true) rfl rfl rfl rfl) ?_
               refine SOps.off rfl (wantX (c := true) rfl rfl rfl rfl) ?_
               refine SOps.off rfl (wantX (c := true) rfl rfl rfl rfl) ?_
               refine SOps.off rfl (wantX (c := true) rfl rfl rfl rfl) ?_
               refine SOps.off rfl (wantX (c := true) rfl rfl rfl rfl) ?_
               refine SOps.val (v := .bool true) rfl (wantN rfl) (fun w => ev_pickT (v := .bool true) rfl (t := true) rfl rfl rfl w) ?_
               refine SOps.nil ?_
               refine SW.cond_t (t := true) rfl rfl ?_
               refine SW.region ?_
               slimval (.int .i64 1)
               refine SOps.nil ?_
               exact ⟨_, p564, l565, b566, 1, l568, x569, x570, Fr.upds_self _ _ ⟨rfl, rfl, rfl, rfl, rfl, rfl, rfl, trivial⟩, h⟩
              ·replace h := h.2 c589
               have dc589 : (decide (x587 < 0)) = false := (decide_eq_false c589)
               refine SOps.val (v := pv (some (b566, 2))) rfl (wantY (c := decide (x587 < 0)) rfl rfl rfl dc589) (fun _ => by kernel_rfl) ?_
               obtain ⟨x590, c591, h⟩ := h
               refine SOps.rd (v := .int .i64 x590) rfl (wantY (c := decide (x587 < 0)) rfl rfl rfl dc589) (fun w hw => ev_load1 rfl (fun _ => by kernel_rfl) (p := (b566, 2)) rfl c591 w hw) ?_
               refine SOps.val (v := .bool (decide (x590 > 4))) rfl (wantY (c := decide (x587 < 0)) rfl rfl rfl dc589) (fun _ => by kernel_rfl) ?_
               refine SOps.val (v := .bool (decide (x590 > 4))) rfl (wantN rfl) (fun w => ev_pickF (v := .bool (decide (x590 > 4))) rfl (t := decide (x587 < 0)) rfl dc589 rfl w) ?_
               slimval (.bool (decide (x590 > 4)))
               by_cases c592 : x590 > 4
               ·replace h := h.1 c592
                have dc592 : (decide (x590 > 4)) = true := (decide_eq_true c592)
                refine SOps.off rfl (wantX (c := decide (x590 > 4)) rfl rfl rfl dc592) ?_
                refine SOps.off rfl (wantX (c := decide (x590 > 4)) rfl rfl rfl dc592) ?_
                refine SOps.off rfl (wantX (c := decide (x590 > 4)) rfl rfl rfl dc592) ?_
                refine SOps.off rfl (wantX (c := decide (x590 > 4)) rfl rfl rfl dc592) ?_
                refine SOps.off rfl (wantX (c := decide (x590 > 4)) rfl rfl rfl dc592) ?_
                refine SOps.val (v := .bool true) rfl (wantN rfl) (fun w => ev_pickT (v := .bool true) rfl (t := decide (x590 > 4)) rfl dc592 rfl w) ?_
                refine SOps.nil ?_
                refine SW.cond_t (t := true) rfl rfl ?_
                refine SW.region ?_
                slimval (.int .i64 1)
                refine SOps.nil ?_
                exact ⟨_, p564, l565, b566, 1, l568, x569, x570, Fr.upds_self _ _ ⟨rfl, rfl, rfl, rfl, rfl, rfl, rfl, trivial⟩, h⟩
               ·replace h := h.2 c592
                have dc592 : (decide (x590 > 4)) = false := (decide_eq_false c592)
                refine SOps.val (v := pv (some (b566, 1))) rfl (wantY (c := decide (x590 > 4)) rfl rfl rfl dc592) (fun _ => by kernel_rfl) ?_
                obtain ⟨x593, c594, h⟩ := h
                refine SOps.rd (v := .int .i64 x593) rfl (wantY (c := decide (x590 > 4)) rfl rfl rfl dc592) (fun w hw => ev_load1 rfl (fun _ => by kernel_rfl) (p := (b566, 1)) rfl c594 w hw) ?_
                refine SOps.val (v := pv (some (b566, 2))) rfl (wantY (c := decide (x590 > 4)) rfl rfl rfl dc592) (fun _ => by kernel_rfl) ?_
                obtain ⟨x595, c596, h⟩ := h
                refine SOps.rd (v := .int .i64 x595) rfl (wantY (c := decide (x590 > 4)) rfl rfl rfl dc592) (fun w hw => ev_load1 rfl (fun _ => by kernel_rfl) (p := (b566, 2)) rfl c596 w hw) ?_
                refine SOps.val (v := .bool (x593 == x595)) rfl (wantY (c := decide (x590 > 4)) rfl rfl rfl dc592) (fun _ => by kernel_rfl) ?_
                refine SOps.val (v := .bool (x593 == x595)) rfl (wantN rfl) (fun w => ev_pickF (v := .bool (x593 == x595)) rfl (t := decide (x590 > 4)) rfl dc592 rfl w) ?_
                refine SOps.nil ?_
                by_cases c597 : x593 = x595
                ·replace h := h.1 c597
                 have dc597 : (x593 == x595) = true := (beq_iff_eq.mpr c597)
                 refine SW.cond_t (t := (x593 == x595)) rfl dc597 ?_
                 refine SW.region ?_
                 slimval (.int .i64 1)
                 refine SOps.nil ?_
                 exact ⟨_, p564, l565, b566, 1, l568, x569, x570, Fr.upds_self _ _ ⟨rfl, rfl, rfl, rfl, rfl, rfl, rfl, trivial⟩, h⟩
                ·replace h := h.2 c597
                 have dc597 : (x593 == x595) = false := (beq_eq_false_iff_ne.mpr c597)
                 refine SW.cond_f (t := (x593 == x595)) rfl dc597 ?_
                 refine SW.skip ?_
                 exact ⟨_, p564, l565, b566, 0, l568, x569, x570, Fr.upds_self _ _ ⟨rfl, rfl, rfl, rfl, rfl, rfl, rfl, trivial⟩, h⟩
          ·replace h := h.2 c573
           have dc573 : (x571 == 0) = false := (beq_eq_false_iff_ne.mpr c573)
           refine SW.cond_f (t := (x571 == 0)) rfl dc573 ?_
           refine SW.seqJ (fun fr H => ∃ (g : Fr) (p626 : Option (Nat × Nat)) (l627 : Sl) (b628 : Nat) (x629 : Int) (l630 : Sl) (x631 : Int) (x632 : Int) (x633 : Int) (q634 : Bool), fr = g.upds [(3, pv p626), (4, sv l627), (6, pv (some (b628, 0))), (7, (.bool false : Value)), (8, (.int .i64 x629 : Value)), (29, sv l630), (30, (.int .i64 x631 : Value)), (31, (.int .i64 x632 : Value)), (51, (.int .i64 x633 : Value)), (103, (.bool q634 : Value))] ∧ ladinglaw19_NetPlays.j16 F K (ladinglaw19_NetPlays.l1 F K k1) p626 l627 b628 x629 l630 x631 x632 x633 q634 H) ?_ ?_
           ·clear h
            rintro fr H ⟨g, p626, l627, b628, x629, l630, x631, x632, x633, q634, rfl, h⟩
            unfold ladinglaw19_NetPlays.j16 at h
            by_cases c635 : q634 = true
            ·replace h := h.1 c635
             have dc635 : q634 = true := c635
             refine SW.cond_t (t := q634) rfl dc635 ?_
             refine SW.seq ?_
             refine SW.region ?_
             refine SOps.alloc rfl rfl (wantN rfl) (z := .agg #[.int .i64 0, .int .i64 0, .string ByteArray.empty]) (by kernel_rfl) (fun b636 c637 => ?_)
             replace h := h b636 c637
             refine SOps.nil ?_
             refine SW.seq ?_
             refine SW.region ?_
             slimval (errV none)
             refine SOps.nil ?_
             refine SW.seqJ (fun fr H => ∃ (g : Fr) (p649 : Option (Nat × Nat)) (l650 : Sl) (b651 : Nat) (x652 : Int) (b653 : Nat) (e654 : Option EV) (l655 : Sl) (x656 : Int) (x657 : Int), fr = g.upds [(3, pv p649), (4, sv l650), (6, pv (some (b651, 0))), (7, (.bool false : Value)), (8, (.int .i64 x652 : Value)), (10, pv (some (b653, 0))), (11, errV e654), (29, sv l655), (30, (.int .i64 x656 : Value)), (31, (.int .i64 x657 : Value))] ∧ ladinglaw19_NetPlays.j17 F K (ladinglaw19_NetPlays.l1 F K k1) p649 l650 b651 x652 b653 e654 l655 x656 x657 H) ?_ ?_
             ·clear h
              rintro fr H ⟨g, p649, l650, b651, x652, b653, e654, l655, x656, x657, rfl, h⟩
              unfold ladinglaw19_NetPlays.j17 at h
              refine SW.seqJ (fun fr H => ∃ (g : Fr) (p674 : Option (Nat × Nat)) (l675 : Sl) (b676 : Nat) (l677 : Sl) (x678 : Int) (x679 : Int), fr = g.upds [(3, pv p674), (4, sv l675), (6, pv (some (b676, 0))), (7, (.bool false : Value)), (29, sv l677), (30, (.int .i64 x678 : Value)), (31, (.int .i64 x679 : Value))] ∧ ladinglaw19_NetPlays.j18 F K (ladinglaw19_NetPlays.l1 F K k1) p674 l675 b676 l677 x678 x679 H) ?_ ?_
              ·clear h
               rintro fr H ⟨g, p674, l675, b676, l677, x678, x679, rfl, h⟩
               unfold ladinglaw19_NetPlays.j18 at h
               refine SW.seq ?_
               refine SW.region ?_
               slimval (.bool false)
               slimval (.bool false)
               refine SOps.off rfl (wantX (c := false) rfl rfl rfl rfl) ?_
               refine SOps.off rfl (wantX (c := false) rfl rfl rfl rfl) ?_
               refine SOps.off rfl (wantX (c := false) rfl rfl rfl rfl) ?_
               refine SOps.val (v := .bool false) rfl (wantN rfl) (fun w => ev_pickF (v := .bool false) rfl (t := false) rfl rfl rfl w) ?_
               refine SOps.nil ?_
               refine SW.cond_f (t := false) rfl rfl ?_
               refine SW.skip ?_
               exact ⟨_, p674, l675, l677, x678, x679, Fr.upds_self _ _ ⟨rfl, rfl, rfl, rfl, rfl, trivial⟩, h⟩
              ·skip
               refine SW.seq ?_
               refine SW.draw (by kernel_rfl) (by kernel_rfl) ?_
               refine SQ.val (v := errV e654) rfl (wantN rfl) (fun _ => by kernel_rfl) ?_
               obtain ⟨x666, c667, h⟩ := h
               refine SQ.enter (v := .int .i64 x666) rfl (wantN rfl) (fun _ => by kernel_rfl) ((api_Code.sound F e654 H _ c667).mono (by rintro v H' ⟨_, rfl, rfl, rfl⟩; exact ⟨rfl, rfl⟩)) ?_
               refine SQ.val (v := .int .i64 x652) rfl (wantN rfl) (fun _ => by kernel_rfl) ?_
               refine SQ.val (v := .bool (x666 != x652)) rfl (wantN rfl) (fun _ => by kernel_rfl) ?_
               refine SQ.val (v := .bool (x666 != x652)) rfl (wantN rfl) (fun _ => by kernel_rfl) ?_
               by_cases c668 : x666 ≠ x652
               ·replace h := h.1 c668
                have dc668 : (x666 != x652) = true := (bne_iff_ne.mpr c668)
                refine SQ.off rfl (wantX (c := (x666 != x652)) rfl rfl rfl dc668) ?_
                refine SQ.off rfl (wantX (c := (x666 != x652)) rfl rfl rfl dc668) ?_
                refine SQ.off rfl (wantU rfl rfl rfl) ?_
                refine SQ.off rfl (wantU rfl rfl rfl) ?_
                refine SQ.off rfl (wantU rfl rfl rfl) ?_
                refine SQ.off rfl (wantU rfl rfl rfl) ?_
                refine SQ.off rfl (wantU rfl rfl rfl) ?_
                refine SQ.off rfl (wantU rfl rfl rfl) ?_
                refine SQ.off rfl (wantU rfl rfl rfl) ?_
                refine SQ.off rfl (wantU rfl rfl rfl) ?_
                refine SQ.off rfl (wantX (c := (x666 != x652)) rfl rfl rfl dc668) ?_
                refine SQ.val (v := .bool true) rfl (wantN rfl) (fun w => ev_pickT (v := .bool true) rfl (t := (x666 != x652)) rfl dc668 rfl w) ?_
                refine SQ.val (v := .bool true) rfl (wantN rfl) (fun _ => by kernel_rfl) ?_
                refine SQ.off rfl (wantX (c := true) rfl rfl rfl rfl) ?_
                refine SQ.off rfl (wantX (c := true) rfl rfl rfl rfl) ?_
                refine SQ.off rfl (wantX (c := true) rfl rfl rfl rfl) ?_
                refine SQ.off rfl (wantU rfl rfl rfl) ?_
                refine SQ.off rfl (wantU rfl rfl rfl) ?_
                refine SQ.off rfl (wantU rfl rfl rfl) ?_
                refine SQ.off rfl (wantX (c := true) rfl rfl rfl rfl) ?_
                refine SQ.val (v := .bool true) rfl (wantN rfl) (fun w => ev_pickT (v := .bool true) rfl (t := true) rfl rfl rfl w) ?_
                refine SQ.nil ?_
                refine SW.cond_t (t := true) rfl rfl ?_
                refine SW.seq ?_
                refine SW.region ?_
                slimval (.bool false)
                refine SOps.nil ?_
                obtain ⟨Hr, hr, h⟩ := h
                exact SW.ret (retQ.mk (.bool false) (res1 rfl rfl) hr ⟨false, rfl, h⟩)
               ·replace h := h.2 c668
                have dc668 : (x666 != x652) = false := (by simpa using c668)
                refine SQ.val (v := .bool false) rfl (wantY (c := (x666 != x652)) rfl rfl rfl dc668) (fun _ => by kernel_rfl) ?_
                refine SQ.val (v := .bool false) rfl (wantY (c := (x666 != x652)) rfl rfl rfl dc668) (fun _ => by kernel_rfl) ?_
                refine SQ.off rfl (wantX (c := false) rfl rfl rfl rfl) ?_
                refine SQ.off rfl (wantX (c := false) rfl rfl rfl rfl) ?_
                refine SQ.off rfl (wantX (c := false) rfl rfl rfl rfl) ?_
                refine SQ.off rfl (wantX (c := false) rfl rfl rfl rfl) ?_
                refine SQ.off rfl (wantX (c := false) rfl rfl rfl rfl) ?_
                refine SQ.off rfl (wantX (c := false) rfl rfl rfl rfl) ?_
                refine SQ.off rfl (wantX (c := false) rfl rfl rfl rfl) ?_
                refine SQ.off rfl (wantX (c := false) rfl rfl rfl rfl) ?_
                refine SQ.val (v := .bool false) rfl (wantY (c := (x666 != x652)) rfl rfl rfl dc668) (fun w => ev_pickF (v := .bool false) rfl (t := false) rfl rfl rfl w) ?_
                refine SQ.val (v := .bool false) rfl (wantN rfl) (fun w => ev_pickF (v := .bool false) rfl (t := (x666 != x652)) rfl dc668 rfl w) ?_
                refine SQ.val (v := .bool false) rfl (wantN rfl) (fun _ => by kernel_rfl) ?_
                refine SQ.val (v := .bool false) rfl (wantY (c := false) rfl rfl rfl rfl) (fun _ => by kernel_rfl) ?_
                refine SQ.val (v := .bool true) rfl (wantY (c := false) rfl rfl rfl rfl) (fun _ => by kernel_rfl) ?_
                refine SQ.val (v := .bool true) rfl (wantY (c := false) rfl rfl rfl rfl) (fun _ => by kernel_rfl) ?_
                obtain ⟨x669, x670, s671, c672, h⟩ := h
                refine SQ.rd (v := .agg #[.int .i64 x669, .int .i64 x670, .string s671]) rfl (wantY (c := true) rfl rfl rfl rfl) (fun w hw => ev_loadN rfl (fun _ => by kernel_rfl) (size := 3) (by kernel_rfl) (p := (b653, 0)) rfl rfl c672 w hw) ?_
                refine SQ.val (v := .agg #[.int .i64 0, .int .i64 0, .string ByteArray.empty]) rfl (wantY (c := true) rfl rfl rfl rfl) (fun _ => by kernel_rfl) ?_
                refine SQ.val (v := .bool (!decide (x669 = 0 ∧ x670 = 0 ∧ s671 = ByteArray.empty))) rfl (wantY (c := true) rfl rfl rfl rfl) (fun w => ev_pktNe rfl rfl rfl w) ?_
                refine SQ.val (v := .bool (!decide (x669 = 0 ∧ x670 = 0 ∧ s671 = ByteArray.empty))) rfl (wantY (c := false) rfl rfl rfl rfl) (fun w => ev_pickT (v := .bool (!decide (x669 = 0 ∧ x670 = 0 ∧ s671 = ByteArray.empty))) rfl (t := true) rfl rfl rfl w) ?_
                refine SQ.val (v := .bool (!decide (x669 = 0 ∧ x670 = 0 ∧ s671 = ByteArray.empty))) rfl (wantN rfl) (fun w => ev_pickF (v := .bool (!decide (x669 = 0 ∧ x670 = 0 ∧ s671 = ByteArray.empty))) rfl (t := false) rfl rfl rfl w) ?_
                refine SQ.nil ?_
                by_cases c673 : (x669 = 0 ∧ x670 = 0 ∧ s671 = ByteArray.empty)
                ·replace h := h.1 c673
                 have dc673 : (decide (x669 = 0 ∧ x670 = 0 ∧ s671 = ByteArray.empty)) = true := (decide_eq_true c673)
                 refine SW.cond_f (t := !decide (x669 = 0 ∧ x670 = 0 ∧ s671 = ByteArray.empty)) rfl (not_t dc673) ?_
                 refine SW.skip ?_
                 exact ⟨_, p649, l650, b651, l655, x656, x657, Fr.upds_self _ _ ⟨rfl, rfl, rfl, rfl, rfl, rfl, rfl, trivial⟩, h⟩
                ·replace h := h.2 c673
                 have dc673 : (decide (x669 = 0 ∧ x670 = 0 ∧ s671 = ByteArray.empty)) = false := (decide_eq_false c673)
                 refine SW.cond_t (t := !decide (x669 = 0 ∧ x670 = 0 ∧ s671 = ByteArray.empty)) rfl (not_f dc673) ?_
                 refine SW.seq ?_
                 refine SW.region ?_
                 slimval (.bool false)
                 refine SOps.nil ?_
                 obtain ⟨Hr, hr, h⟩ := h
                 exact SW.ret (retQ.mk (.bool false) (res1 rfl rfl) hr ⟨false, rfl, h⟩)
             ·skip
              refine SW.seq ?_
              refine SW.region ?_
              slimval (pv (some (b628, 0)))
              obtain ⟨x638, c639, h⟩ := h
              refine SOps.rd (v := .int .i64 x638) rfl (wantN rfl) (fun w hw => ev_load1 rfl (fun _ => by kernel_rfl) (p := (b628, 0)) rfl c639 w hw) ?_
              slimval (.bool (x638 == 1))
              refine SOps.nil ?_
              by_cases c640 : x638 = 1
              ·replace h := h.1 c640
               have dc640 : (x638 == 1) = true := (beq_iff_eq.mpr c640)
               refine SW.cond_t (t := (x638 == 1)) rfl dc640 ?_
               refine SW.region ?_
               slimval (pv p626)
               slimval (pv (some (b628, 1)))
               obtain ⟨x641, c642, h⟩ := h
               refine SOps.rd (v := .int .i64 x641) rfl (wantN rfl) (fun w hw => ev_load1 rfl (fun _ => by kernel_rfl) (p := (b628, 1)) rfl c642 w hw) ?_
               refine SOps.enter rfl (wantN rfl) (fun _ => by kernel_rfl) (net_Net_Take.sound F p626 x641 (SH.upd H b636 ⟨[.int .i64 0, .int .i64 0, .string ByteArray.empty], 34, false, 3⟩) _ h) ?_
               clear h
               rintro v H647 ⟨x643, x644, s645, e646, rfl, h⟩
               slimval (.tuple #[.agg #[.int .i64 x643, .int .i64 x644, .string s645], errV e646])
               slimval (.agg #[.int .i64 x643, .int .i64 x644, .string s645])
               slimval (errV e646)
               obtain ⟨c648, h⟩ := h
               refine SOps.storeL (p := (b636, 0)) (v := .agg #[.int .i64 x643, .int .i64 x644, .string s645]) (cs := [.int .i64 x643, .int .i64 x644, .string s645]) rfl rfl (wantN rfl) (size := 3) (by kernel_rfl) rfl rfl rfl rfl (by simp [Value.oneCell', errV_one, pv, sv]) c648 ?_
               slimval (errV e646)
               refine SOps.nil ?_
               exact ⟨_, p626, l627, b628, x629, b636, e646, l630, x631, x632, Fr.upds_self _ _ ⟨rfl, rfl, rfl, rfl, rfl, rfl, rfl, rfl, rfl, rfl, trivial⟩, h⟩
              ·replace h := h.2 c640
               have dc640 : (x638 == 1) = false := (beq_eq_false_iff_ne.mpr c640)
               refine SW.cond_f (t := (x638 == 1)) rfl dc640 ?_
               refine SW.region ?_
               slimval (pv p626)
               slimval (pv (some (b628, 1)))
               obtain ⟨x658, c659, h⟩ := h
               refine SOps.rd (v := .int .i64 x658) rfl (wantN rfl) (fun w hw => ev_load1 rfl (fun _ => by kernel_rfl) (p := (b628, 1)) rfl c659 w hw) ?_
               refine SOps.enter rfl (wantN rfl) (fun _ => by kernel_rfl) (net_Net_Look.sound F p626 x658 (SH.upd H b636 ⟨[.int .i64 0, .int .i64 0, .string ByteArray.empty], 34, false, 3⟩) _ h) ?_
               clear h
               rintro v H664 ⟨x660, x661, s662, e663, rfl, h⟩
               slimval (.tuple #[.agg #[.int .i64 x660, .int .i64 x661, .string s662], errV e663])
               slimval (.agg #[.int .i64 x660, .int .i64 x661, .string s662])
               slimval (errV e663)
               obtain ⟨c665, h⟩ := h
               refine SOps.storeL (p := (b636, 0)) (v := .agg #[.int .i64 x660, .int .i64 x661, .string s662]) (cs := [.int .i64 x660, .int .i64 x661, .string s662]) rfl rfl (wantN rfl) (size := 3) (by kernel_rfl) rfl rfl rfl rfl (by simp [Value.oneCell', errV_one, pv, sv]) c665 ?_
               slimval (errV e663)
               refine SOps.nil ?_
               exact ⟨_, p626, l627, b628, x629, b636, e663, l630, x631, x632, Fr.upds_self _ _ ⟨rfl, rfl, rfl, rfl, rfl, rfl, rfl, rfl, rfl, rfl, trivial⟩, h⟩
            ·replace h := h.2 c635
             have dc635 : q634 = false := (Bool.eq_false_iff.mpr c635)
             refine SW.cond_f (t := q634) rfl dc635 ?_
             refine SW.seq ?_
             refine SW.region ?_
             slimval (.bool (x633 == 3))
             slimval (.bool (x633 == 3))
             refine SOps.nil ?_
             by_cases c682 : x633 = 3
             ·replace h := h.1 c682
              have dc682 : (x633 == 3) = true := (beq_iff_eq.mpr c682)
              refine SW.cond_t (t := (x633 == 3)) rfl dc682 ?_
              refine SW.seq ?_
              refine SW.seq ?_
              refine SW.region ?_
              slimval (pv p626)
              slimval (pv (some (b628, 1)))
              obtain ⟨x683, c684, h⟩ := h
              refine SOps.rd (v := .int .i64 x683) rfl (wantN rfl) (fun w hw => ev_load1 rfl (fun _ => by kernel_rfl) (p := (b628, 1)) rfl c684 w hw) ?_
              refine SOps.enter rfl (wantN rfl) (fun _ => by kernel_rfl) (net_Net_Drop.sound F p626 x683 H _ h) ?_
              clear h
              rintro v H686 ⟨e685, rfl, h⟩
              refine SOps.enter rfl (wantN rfl) (fun _ => by kernel_rfl) (api_Code.sound F e685 H686 _ h) ?_
              clear h
              rintro v H688 ⟨x687, rfl, h⟩
              slimval (.int .i64 x629)
              slimval (.bool (x687 != x629))
              refine SOps.nil ?_
              by_cases c689 : x687 ≠ x629
              ·replace h := h.1 c689
               have dc689 : (x687 != x629) = true := (bne_iff_ne.mpr c689)
               refine SW.cond_t (t := (x687 != x629)) rfl dc689 ?_
               refine SW.seq ?_
               refine SW.region ?_
               slimval (.bool false)
               refine SOps.nil ?_
               obtain ⟨Hr, hr, h⟩ := h
               exact SW.ret (retQ.mk (.bool false) (res1 rfl rfl) hr ⟨false, rfl, h⟩)
              ·replace h := h.2 c689
               have dc689 : (x687 != x629) = false := (by simpa using c689)
               refine SW.cond_f (t := (x687 != x629)) rfl dc689 ?_
               refine SW.skip ?_
               refine SW.seq ?_
               refine SW.region ?_
               slimval (.bool false)
               refine SOps.nil ?_
               refine SW.cond_f (t := false) rfl rfl ?_
               refine SW.skip ?_
               exact ⟨_, p626, l627, l630, x631, x632, Fr.upds_self _ _ ⟨rfl, rfl, rfl, rfl, rfl, trivial⟩, h⟩
             ·replace h := h.2 c682
              have dc682 : (x633 == 3) = false := (beq_eq_false_iff_ne.mpr c682)
              refine SW.cond_f (t := (x633 == 3)) rfl dc682 ?_
              refine SW.seq ?_
              refine SW.region ?_
              slimval (.bool (x633 == 4))
              slimval (.bool (x633 == 4))
              refine SOps.nil ?_
              by_cases c690 : x633 = 4
              ·replace h := h.1 c690
               have dc690 : (x633 == 4) = true := (beq_iff_eq.mpr c690)
               refine SW.cond_t (t := (x633 == 4)) rfl dc690 ?_
               refine SW.seq ?_
               refine SW.seq ?_
               refine SW.region ?_
               slimval (pv p626)
               slimval (pv (some (b628, 1)))
               obtain ⟨x691, c692, h⟩ := h
               refine SOps.rd (v := .int .i64 x691) rfl (wantN rfl) (fun w hw => ev_load1 rfl (fun _ => by kernel_rfl) (p := (b628, 1)) rfl c692 w hw) ?_
               refine SOps.enter rfl (wantN rfl) (fun _ => by kernel_rfl) (net_Net_Twice.sound F p626 x691 H _ h) ?_
               clear h
               rintro v H694 ⟨e693, rfl, h⟩
               refine SOps.enter rfl (wantN rfl) (fun _ => by kernel_rfl) (api_Code.sound F e693 H694 _ h) ?_
               clear h
               rintro v H696 ⟨x695, rfl, h⟩
               slimval (.int .i64 x629)
               slimval (.bool (x695 != x629))
               refine SOps.nil ?_
               by_cases c697 : x695 ≠ x629
               ·replace h := h.1 c697
                have dc697 : (x695 != x629) = true := (bne_iff_ne.mpr c697)
                refine SW.cond_t (t := (x695 != x629)) rfl dc697 ?_
                refine SW.seq ?_
                refine SW.region ?_
                slimval (.bool false)
                refine SOps.nil ?_
                obtain ⟨Hr, hr, h⟩ := h
                exact SW.ret (retQ.mk (.bool false) (res1 rfl rfl) hr ⟨false, rfl, h⟩)
               ·replace h := h.2 c697
                have dc697 : (x695 != x629) = false := (by simpa using c697)
                refine SW.cond_f (t := (x695 != x629)) rfl dc697 ?_
                refine SW.skip ?_
                refine SW.seq ?_
                refine SW.region ?_
                slimval (.bool false)
                refine SOps.nil ?_
                refine SW.cond_f (t := false) rfl rfl ?_
                refine SW.skip ?_
                exact ⟨_, p626, l627, l630, x631, x632, Fr.upds_self _ _ ⟨rfl, rfl, rfl, rfl, rfl, trivial⟩, h⟩
              ·replace h := h.2 c690
               have dc690 : (x633 == 4) = false := (beq_eq_false_iff_ne.mpr c690)
               refine SW.cond_f (t := (x633 == 4)) rfl dc690 ?_
               refine SW.seq ?_
               refine SW.region ?_
               slimval (.bool (x633 == 5))
               slimval (.bool (x633 == 5))
               refine SOps.nil ?_
               by_cases c698 : x633 = 5
               ·replace h := h.1 c698
                have dc698 : (x633 == 5) = true := (beq_iff_eq.mpr c698)
                refine SW.cond_t (t := (x633 == 5)) rfl dc698 ?_
                refine SW.seq ?_
                refine SW.seq ?_
                refine SW.region ?_
                slimval (pv p626)
                slimval (pv (some (b628, 1)))
                obtain ⟨x699, c700, h⟩ := h
                refine SOps.rd (v := .int .i64 x699) rfl (wantN rfl) (fun w hw => ev_load1 rfl (fun _ => by kernel_rfl) (p := (b628, 1)) rfl c700 w hw) ?_
                slimval (pv (some (b628, 2)))
                obtain ⟨x701, c702, h⟩ := h
                refine SOps.rd (v := .int .i64 x701) rfl (wantN rfl) (fun w hw => ev_load1 rfl (fun _ => by kernel_rfl) (p := (b628, 2)) rfl c702 w hw) ?_
                refine SOps.enter rfl (wantN rfl) (fun _ => by kernel_rfl) (net_Net_Turn.sound F p626 x699 x701 H _ h) ?_
                clear h
                rintro v H704 ⟨e703, rfl, h⟩
                refine SOps.enter rfl (wantN rfl) (fun _ => by kernel_rfl) (api_Code.sound F e703 H704 _ h) ?_
                clear h
                rintro v H706 ⟨x705, rfl, h⟩
                slimval (.int .i64 x629)
                slimval (.bool (x705 != x629))
                refine SOps.nil ?_
                by_cases c707 : x705 ≠ x629
                ·replace h := h.1 c707
                 have dc707 : (x705 != x629) = true := (bne_iff_ne.mpr c707)
                 refine SW.cond_t (t := (x705 != x629)) rfl dc707 ?_
                 refine SW.seq ?_
                 refine SW.region ?_
                 slimval (.bool false)
                 refine SOps.nil ?_
                 obtain ⟨Hr, hr, h⟩ := h
                 exact SW.ret (retQ.mk (.bool false) (res1 rfl rfl) hr ⟨false, rfl, h⟩)
                ·replace h := h.2 c707
                 have dc707 : (x705 != x629) = false := (by simpa using c707)
                 refine SW.cond_f (t := (x705 != x629)) rfl dc707 ?_
                 refine SW.skip ?_
                 refine SW.seq ?_
                 refine SW.region ?_
                 slimval (.bool false)
                 refine SOps.nil ?_
                 refine SW.cond_f (t := false) rfl rfl ?_
                 refine SW.skip ?_
                 exact ⟨_, p626, l627, l630, x631, x632, Fr.upds_self _ _ ⟨rfl, rfl, rfl, rfl, rfl, trivial⟩, h⟩
               ·replace h := h.2 c698
                have dc698 : (x633 == 5) = false := (beq_eq_false_iff_ne.mpr c698)
                refine SW.cond_f (t := (x633 == 5)) rfl dc698 ?_
                refine SW.seq ?_
                refine SW.region ?_
                slimval (.bool (x633 == 6))
                slimval (.bool (x633 == 6))
                refine SOps.nil ?_
                by_cases c708 : x633 = 6
                ·replace h := h.1 c708
                 have dc708 : (x633 == 6) = true := (beq_iff_eq.mpr c708)
                 refine SW.cond_t (t := (x633 == 6)) rfl dc708 ?_
                 refine SW.seq ?_
                 refine SW.region ?_
                 slimval (.int .i64 x629)
                 slimval (.int .i64 x629)
                 refine SOps.nil ?_
                 refine SW.seqJ (fun fr H => ∃ (g : Fr) (p716 : Option (Nat × Nat)) (l717 : Sl) (b718 : Nat) (x719 : Int) (l720 : Sl) (x721 : Int) (x722 : Int), fr = g.upds [(3, pv p716), (4, sv l717), (6, pv (some (b718, 0))), (15, (.int .i64 x719 : Value)), (29, sv l720), (30, (.int .i64 x721 : Value)), (31, (.int .i64 x722 : Value))] ∧ ladinglaw19_NetPlays.j19 F K (ladinglaw19_NetPlays.l1 F K k1) p716 l717 b718 x719 l720 x721 x722 H) ?_ ?_
                 ·clear h
                  rintro fr H ⟨g, p716, l717, b718, x719, l720, x721, x722, rfl, h⟩
                  unfold ladinglaw19_NetPlays.j19 at h
                  refine SW.seq ?_
                  refine SW.seq ?_
                  refine SW.region ?_
                  slimval (pv p716)
                  slimval (pv (some (b718, 1)))
                  obtain ⟨x724, c725, h⟩ := h
                  refine SOps.rd (v := .int .i64 x724) rfl (wantN rfl) (fun w hw => ev_load1 rfl (fun _ => by kernel_rfl) (p := (b718, 1)) rfl c725 w hw) ?_
                  slimval (pv (some (b718, 2)))
                  obtain ⟨x726, c727, h⟩ := h
                  refine SOps.rd (v := .int .i64 x726) rfl (wantN rfl) (fun w hw => ev_load1 rfl (fun _ => by kernel_rfl) (p := (b718, 2)) rfl c727 w hw) ?_
                  slimval (pv (some (b718, 3)))
                  obtain ⟨x728, c729, h⟩ := h
                  refine SOps.rd (v := .int .u8 x728) rfl (wantN rfl) (fun w hw => ev_load1 rfl (fun _ => by kernel_rfl) (p := (b718, 3)) rfl c729 w hw) ?_
                  refine SOps.enter rfl (wantN rfl) (fun _ => by kernel_rfl) (net_Net_Spoil.sound F p716 x724 x726 x728 H _ h) ?_
                  clear h
                  rintro v H731 ⟨e730, rfl, h⟩
                  refine SOps.enter rfl (wantN rfl) (fun _ => by kernel_rfl) (api_Code.sound F e730 H731 _ h) ?_
                  clear h
                  rintro v H733 ⟨x732, rfl, h⟩
                  slimval (.int .i64 x719)
                  slimval (.bool (x732 != x719))
                  refine SOps.nil ?_
                  by_cases c734 : x732 ≠ x719
                  ·replace h := h.1 c734
                   have dc734 : (x732 != x719) = true := (bne_iff_ne.mpr c734)
                   refine SW.cond_t (t := (x732 != x719)) rfl dc734 ?_
                   refine SW.seq ?_
                   refine SW.region ?_
                   slimval (.bool false)
                   refine SOps.nil ?_
                   obtain ⟨Hr, hr, h⟩ := h
                   exact SW.ret (retQ.mk (.bool false) (res1 rfl rfl) hr ⟨false, rfl, h⟩)
                  ·replace h := h.2 c734
                   have dc734 : (x732 != x719) = false := (by simpa using c734)
                   refine SW.cond_f (t := (x732 != x719)) rfl dc734 ?_
                   refine SW.skip ?_
                   refine SW.seq ?_
                   refine SW.region ?_
                   slimval (.int .i64 x719)
                   slimval (.bool (x719 == 0))
                   refine SOps.nil ?_
                   by_cases c735 : x719 = 0
                   ·replace h := h.1 c735
                    have dc735 : (x719 == 0) = true := (beq_iff_eq.mpr c735)
                    refine SW.cond_t (t := (x719 == 0)) rfl dc735 ?_
                    refine SW.seq ?_
                    refine SW.region ?_
                    slimval (sv l717)
                    slimval (pv (some (b718, 1)))
                    obtain ⟨x736, c737, h⟩ := h
                    refine SOps.rd (v := .int .i64 x736) rfl (wantN rfl) (fun w hw => ev_load1 rfl (fun _ => by kernel_rfl) (p := (b718, 1)) rfl c737 w hw) ?_
                    obtain ⟨p738, c739, c740, c741, h⟩ := h
                    refine SOps.val (v := pv (some (p738.1, (p738.2 + x736.toNat * 4)))) rfl (wantN rfl) (fun w => ev_iaddr rfl Tryd.underlying26 (size := 4) (by kernel_rfl) rfl rfl c739 c740 c741 w) ?_
                    slimval (pv (some (p738.1, (p738.2 + x736.toNat * 4))))
                    slimval (pv (some (p738.1, ((p738.2 + x736.toNat * 4) + 2))))
                    obtain ⟨s742, c743, h⟩ := h
                    refine SOps.rd (v := .string s742) rfl (wantN rfl) (fun w hw => ev_load1 rfl (fun _ => by kernel_rfl) (p := (p738.1, ((p738.2 + x736.toNat * 4) + 2))) rfl c743 w hw) ?_
                    refine SOps.bytes rfl rfl (wantN rfl) Tryd.underlying9 Tryd.underlying42 Tryd.underlying5 rfl rfl (fun b744 n745 c746 c747 => ?_)
                    replace h := h b744 n745 c746 c747
                    slimval (sv (⟨some (b744, 0), s742.size, n745⟩ : Sl))
                    refine SOps.nil ?_
                    refine SW.seq ?_
                    obtain ⟨x748, c749, h⟩ := h
                    obtain ⟨p750, c751, c752, c753, h⟩ := h
                    obtain ⟨x754, c755, h⟩ := h
                    obtain ⟨x756, c757, h⟩ := h
                    obtain ⟨p758, c759, c760, c761, h⟩ := h
                    refine SW.drawA [.val (sv (⟨some (b744, 0), s742.size, n745⟩ : Sl)), .val (pv (some (b718, 2))), .val (.int .i64 x748), .val (pv (some (p750.1, (p750.2 + x748.toNat * 1)))), .val (.int .u8 x754), .val (pv (some (b718, 3))), .val (.int .u8 x756), .val (.int .u8 (ibits .xor .u8 x754 x756)), .val (pv (some (p758.1, (p758.2 + x748.toNat * 1))))] (by kernel_rfl) (by kernel_rfl) (And.intro ?_ (And.intro ?_ (And.intro ?_ (And.intro ?_ (And.intro ?_ (And.intro ?_ (And.intro ?_ (And.intro ?_ (And.intro ?_ (trivial)))))))))) ?_
                    ·clear h
                     intro fr' T' H' hle hs hA
                     have a16 : fr' 16 = sv (⟨some (b744, 0), s742.size, n745⟩ : Sl) := hs 16 (by kernel_rfl)
                     obtain ⟨g', hg'⟩ : ∃ g' : Fr, fr' = g'.upds [(16, sv (⟨some (b744, 0), s742.size, n745⟩ : Sl))] := ⟨_, Fr.upds_self _ _ ⟨a16, trivial⟩⟩
                     subst hg'
                     exact SA.val (v := sv (⟨some (b744, 0), s742.size, n745⟩ : Sl)) rfl (wantN rfl) (fun _ => by kernel_rfl)
                    ·clear h
                     intro fr' T' H' hle hs hA
                     have a6 : fr' 6 = pv (some (b718, 0)) := hs 6 (by kernel_rfl)
                     obtain ⟨g', hg'⟩ : ∃ g' : Fr, fr' = g'.upds [(6, pv (some (b718, 0)))] := ⟨_, Fr.upds_self _ _ ⟨a6, trivial⟩⟩
                     subst hg'
                     exact SA.val (v := pv (some (b718, 2))) rfl (wantN rfl) (fun _ => by kernel_rfl)
                    ·clear h
                     intro fr' T' H' hle hs hA
                     have a310 : fr' 310 = pv (some (b718, 2)) := hA 1 (by kernel_rfl)
                     obtain ⟨g', hg'⟩ : ∃ g' : Fr, fr' = g'.upds [(310, pv (some (b718, 2)))] := ⟨_, Fr.upds_self _ _ ⟨a310, trivial⟩⟩
                     subst hg'
                     exact SA.rd hle (v := .int .i64 x748) rfl (wantN rfl) (fun w hw => ev_load1 rfl (fun _ => by kernel_rfl) (p := (b718, 2)) rfl c749 w hw)
                    ·clear h
                     intro fr' T' H' hle hs hA
                     have a309 : fr' 309 = sv (⟨some (b744, 0), s742.size, n745⟩ : Sl) := hA 0 (by kernel_rfl)
                     have a311 : fr' 311 = (.int .i64 x748 : Value) := hA 2 (by kernel_rfl)
                     obtain ⟨g', hg'⟩ : ∃ g' : Fr, fr' = g'.upds [(309, sv (⟨some (b744, 0), s742.size, n745⟩ : Sl)), (311, (.int .i64 x748 : Value))] := ⟨_, Fr.upds_self _ _ ⟨a309, a311, trivial⟩⟩
                     subst hg'
                     exact SA.val (v := pv (some (p750.1, (p750.2 + x748.toNat * 1)))) rfl (wantN rfl) (fun w => ev_iaddr rfl Tryd.underlying42 (size := 1) (by kernel_rfl) rfl rfl c751 c752 c753 w)
                    ·clear h
                     intro fr' T' H' hle hs hA
                     have a312 : fr' 312 = pv (some (p750.1, (p750.2 + x748.toNat * 1))) := hA 3 (by kernel_rfl)
                     obtain ⟨g', hg'⟩ : ∃ g' : Fr, fr' = g'.upds [(312, pv (some (p750.1, (p750.2 + x748.toNat * 1))))] := ⟨_, Fr.upds_self _ _ ⟨a312, trivial⟩⟩
                     subst hg'
                     exact SA.rd hle (v := .int .u8 x754) rfl (wantN rfl) (fun w hw => ev_load1 rfl (fun _ => by kernel_rfl) (p := (p750.1, (p750.2 + x748.toNat * 1))) rfl c755 w hw)
                    ·clear h
                     intro fr' T' H' hle hs hA
                     have a6 : fr' 6 = pv (some (b718, 0)) := hs 6 (by kernel_rfl)
                     obtain ⟨g', hg'⟩ : ∃ g' : Fr, fr' = g'.upds [(6, pv (some (b718, 0)))] := ⟨_, Fr.upds_self _ _ ⟨a6, trivial⟩⟩
                     subst hg'
                     exact SA.val (v := pv (some (b718, 3))) rfl (wantN rfl) (fun _ => by kernel_rfl)
                    ·clear h
                     intro fr' T' H' hle hs hA
                     have a314 : fr' 314 = pv (some (b718, 3)) := hA 5 (by kernel_rfl)
                     obtain ⟨g', hg'⟩ : ∃ g' : Fr, fr' = g'.upds [(314, pv (some (b718, 3)))] := ⟨_, Fr.upds_self _ _ ⟨a314, trivial⟩⟩
                     subst hg'
                     exact SA.rd hle (v := .int .u8 x756) rfl (wantN rfl) (fun w hw => ev_load1 rfl (fun _ => by kernel_rfl) (p := (b718, 3)) rfl c757 w hw)
                    ·clear h
                     intro fr' T' H' hle hs hA
                     have a313 : fr' 313 = (.int .u8 x754 : Value) := hA 4 (by kernel_rfl)
                     have a315 : fr' 315 = (.int .u8 x756 : Value) := hA 6 (by kernel_rfl)
                     obtain ⟨g', hg'⟩ : ∃ g' : Fr, fr' = g'.upds [(313, (.int .u8 x754 : Value)), (315, (.int .u8 x756 : Value))] := ⟨_, Fr.upds_self _ _ ⟨a313, a315, trivial⟩⟩
                     subst hg'
                     exact SA.val (v := .int .u8 (ibits .xor .u8 x754 x756)) rfl (wantN rfl) (fun _ => by kernel_rfl)
                    ·clear h
                     intro fr' T' H' hle hs hA
                     have a309 : fr' 309 = sv (⟨some (b744, 0), s742.size, n745⟩ : Sl) := hA 0 (by kernel_rfl)
                     have a311 : fr' 311 = (.int .i64 x748 : Value) := hA 2 (by kernel_rfl)
                     obtain ⟨g', hg'⟩ : ∃ g' : Fr, fr' = g'.upds [(309, sv (⟨some (b744, 0), s742.size, n745⟩ : Sl)), (311, (.int .i64 x748 : Value))] := ⟨_, Fr.upds_self _ _ ⟨a309, a311, trivial⟩⟩
                     subst hg'
                     exact SA.val (v := pv (some (p758.1, (p758.2 + x748.toNat * 1)))) rfl (wantN rfl) (fun w => ev_iaddr rfl Tryd.underlying42 (size := 1) (by kernel_rfl) rfl rfl c759 c760 c761 w)
                    ·intro fr' T' H' hle hs hA
                     have a3 : fr' 3 = pv p716 := hs 3 (by kernel_rfl)
                     have a4 : fr' 4 = sv l717 := hs 4 (by kernel_rfl)
                     have a6 : fr' 6 = pv (some (b718, 0)) := hs 6 (by kernel_rfl)
                     have a16 : fr' 16 = sv (⟨some (b744, 0), s742.size, n745⟩ : Sl) := hs 16 (by kernel_rfl)
                     have a29 : fr' 29 = sv l720 := hs 29 (by kernel_rfl)
                     have a30 : fr' 30 = (.int .i64 x721 : Value) := hs 30 (by kernel_rfl)
                     have a31 : fr' 31 = (.int .i64 x722 : Value) := hs 31 (by kernel_rfl)
                     have a316 : fr' 316 = (.int .u8 (ibits .xor .u8 x754 x756) : Value) := hA 7 (Nat.le_of_ble_eq_true rfl)
                     have a317 : fr' 317 = pv (some (p758.1, (p758.2 + x748.toNat * 1))) := hA 8 (Nat.le_of_ble_eq_true rfl)
                     obtain ⟨g', hg'⟩ : ∃ g' : Fr, fr' = g'.upds [(3, pv p716), (4, sv l717), (6, pv (some (b718, 0))), (16, sv (⟨some (b744, 0), s742.size, n745⟩ : Sl)), (29, sv l720), (30, (.int .i64 x721 : Value)), (31, (.int .i64 x722 : Value)), (316, (.int .u8 (ibits .xor .u8 x754 x756) : Value)), (317, pv (some (p758.1, (p758.2 + x748.toNat * 1))))] := ⟨_, Fr.upds_self _ _ ⟨a3, a4, a6, a16, a29, a30, a31, a316, a317, trivial⟩⟩
                     subst hg'
                     refine SOps.forget (SH.upd H733 b744 ⟨byteCells s742.data.toList, 5, false, n745⟩) hle ?_
                     clear hle hs hA
                     obtain ⟨c763, h⟩ := h
                     refine SOps.storeL (p := (p758.1, (p758.2 + x748.toNat * 1))) (v := .int .u8 (ibits .xor .u8 x754 x756)) (cs := [.int .u8 (ibits .xor .u8 x754 x756)]) rfl rfl (wantN rfl) (size := 1) (by kernel_rfl) rfl rfl rfl rfl (by simp [Value.oneCell', errV_one, pv, sv]) c763 ?_
                     refine SOps.nil ?_
                     refine SW.seq ?_
                     refine SW.region ?_
                     refine SOps.lit (E := 36) (cs := #[]) rfl rfl (wantN rfl) (fun _ => by kernel_rfl) (fun b764 c765 => ?_)
                     replace h := h b764 c765
                     slimval (sv l717)
                     obtain ⟨w794, c795, h⟩ := h
                     refine SOps.append (z := .agg #[.int .i64 0, .int .i64 0, .string ByteArray.empty, .bool false]) (size := 4) (bytes := 40) rfl rfl (wantN rfl) Tryd.underlying26 (by kernel_rfl) rfl rfl rfl (.inl ⟨⟨_, Tryd.underlying26⟩, _, rfl, rfl, c795⟩) (AppendQ.mono h ?_)
                     clear h
                     intro l766 H767 h
                     slimval (sv l766)
                     refine SOps.nil ?_
                     obtain ⟨H768, c769, h⟩ := h
                     obtain ⟨x776, c777, h⟩ := h
                     obtain ⟨x778, c779, h⟩ := h
                     obtain ⟨bs780, c781, c782, h⟩ := h
                     obtain ⟨p783, c784, c785, c786, h⟩ := h
                     obtain ⟨p787, c788, c789, c790, h⟩ := h
                     obtain ⟨c791, c792, h⟩ := h
                     refine SW.drawW [] [.val (sv l766), .val (pv (some (b718, 1))), .val (.int .i64 x776), .val (sv l766), .val (pv (some (b718, 1))), .val (.int .i64 x778), .val (sv (⟨some (b744, 0), s742.size, n745⟩ : Sl)), .val (.string (⟨bs780.toArray⟩ : ByteArray)), .val (pv (some (p783.1, (p783.2 + x776.toNat * 4)))), .val (pv (some (p783.1, (p783.2 + x776.toNat * 4)))), .val (pv (some (p783.1, ((p783.2 + x776.toNat * 4) + 2)))), .rel (fun _ _ _ H8 => SH.le (SH.setl H767 (p783.1, ((p783.2 + x776.toNat * 4) + 2)) [.string (⟨bs780.toArray⟩ : ByteArray)]) H8) (fun _ _ _ _ _ _ h hle _ => h.trans hle), .val (pv (some (p787.1, (p787.2 + x778.toNat * 4)))), .val (pv (some (p787.1, ((p787.2 + x778.toNat * 4) + 3))))] [.d, .d, .d, .b, .b, .b, .d, .d, .d, .d, .d, .w, .b, .b] 11 H768 (by kernel_rfl) (by kernel_rfl) (by kernel_rfl) c769 trivial (And.intro ?_ (And.intro ?_ (And.intro ?_ (And.intro ?_ (And.intro ?_ (And.intro ?_ (And.intro ?_ (And.intro ?_ (And.intro ?_ (And.intro ?_ (And.intro ?_ (And.intro ?_ (And.intro ?_ (And.intro ?_ (trivial))))))))))))))) ?_
                     ·try clear h
                      intro fr' T' H' hle hs hA
                      have a4 : fr' 4 = sv l766 := hs 4 (by kernel_rfl)
                      obtain ⟨g', hg'⟩ : ∃ g' : Fr, fr' = g'.upds [(4, sv l766)] := ⟨_, Fr.upds_self _ _ ⟨a4, trivial⟩⟩
                      subst hg'
                      exact SA.val (v := sv l766) rfl (wantN rfl) (fun _ => by kernel_rfl)
                     ·try clear h
                      intro fr' T' H' hle hs hA
                      have a6 : fr' 6 = pv (some (b718, 0)) := hs 6 (by kernel_rfl)
                      obtain ⟨g', hg'⟩ : ∃ g' : Fr, fr' = g'.upds [(6, pv (some (b718, 0)))] := ⟨_, Fr.upds_self _ _ ⟨a6, trivial⟩⟩
                      subst hg'
                      exact SA.val (v := pv (some (b718, 1))) rfl (wantN rfl) (fun _ => by kernel_rfl)
                     ·try clear h
                      intro fr' T' H' hle hs hA
                      have a322 : fr' 322 = pv (some (b718, 1)) := hA 1 (by kernel_rfl)
                      obtain ⟨g', hg'⟩ : ∃ g' : Fr, fr' = g'.upds [(322, pv (some (b718, 1)))] := ⟨_, Fr.upds_self _ _ ⟨a322, trivial⟩⟩
                      subst hg'
                      exact SA.rd hle (v := .int .i64 x776) rfl (wantN rfl) (fun w hw => ev_load1 rfl (fun _ => by kernel_rfl) (p := (b718, 1)) rfl c777 w hw)
                     ·try clear h
                      intro fr' T' H' hle hs hA
                      have a4 : fr' 4 = sv l766 := hs 4 (by kernel_rfl)
                      obtain ⟨g', hg'⟩ : ∃ g' : Fr, fr' = g'.upds [(4, sv l766)] := ⟨_, Fr.upds_self _ _ ⟨a4, trivial⟩⟩
                      subst hg'
                      exact SA.val (v := sv l766) rfl (wantN rfl) (fun _ => by kernel_rfl)
                     ·try clear h
                      intro fr' T' H' hle hs hA
                      have a6 : fr' 6 = pv (some (b718, 0)) := hs 6 (by kernel_rfl)
                      obtain ⟨g', hg'⟩ : ∃ g' : Fr, fr' = g'.upds [(6, pv (some (b718, 0)))] := ⟨_, Fr.upds_self _ _ ⟨a6, trivial⟩⟩
                      subst hg'
                      exact SA.val (v := pv (some (b718, 1))) rfl (wantN rfl) (fun _ => by kernel_rfl)
                     ·try clear h
                      intro fr' T' H' hle hs hA
                      have a325 : fr' 325 = pv (some (b718, 1)) := hA 4 (by kernel_rfl) (by kernel_rfl)
                      obtain ⟨g', hg'⟩ : ∃ g' : Fr, fr' = g'.upds [(325, pv (some (b718, 1)))] := ⟨_, Fr.upds_self _ _ ⟨a325, trivial⟩⟩
                      subst hg'
                      exact SA.rdH (Hc := H768) hle (v := .int .i64 x778) rfl (wantN rfl) (fun w hw => ev_load1 rfl (fun _ => by kernel_rfl) (p := (b718, 1)) rfl c779 w hw)
                     ·try clear h
                      intro fr' T' H' hle hs hA
                      have a16 : fr' 16 = sv (⟨some (b744, 0), s742.size, n745⟩ : Sl) := hs 16 (by kernel_rfl)
                      obtain ⟨g', hg'⟩ : ∃ g' : Fr, fr' = g'.upds [(16, sv (⟨some (b744, 0), s742.size, n745⟩ : Sl))] := ⟨_, Fr.upds_self _ _ ⟨a16, trivial⟩⟩
                      subst hg'
                      exact SA.val (v := sv (⟨some (b744, 0), s742.size, n745⟩ : Sl)) rfl (wantN rfl) (fun _ => by kernel_rfl)
                     ·try clear h
                      intro fr' T' H' hle hs hA
                      have a327 : fr' 327 = sv (⟨some (b744, 0), s742.size, n745⟩ : Sl) := hA 6 (by kernel_rfl)
                      obtain ⟨g', hg'⟩ : ∃ g' : Fr, fr' = g'.upds [(327, sv (⟨some (b744, 0), s742.size, n745⟩ : Sl))] := ⟨_, Fr.upds_self _ _ ⟨a327, trivial⟩⟩
                      subst hg'
                      exact SA.rd hle (v := .string (⟨bs780.toArray⟩ : ByteArray)) rfl (wantN rfl) (fun w hw => ev_str rfl Tryd.underlying42 Tryd.underlying5 Tryd.underlying9 rfl c781 c782 w hw)
                     ·try clear h
                      intro fr' T' H' hle hs hA
                      have a321 : fr' 321 = sv l766 := hA 0 (by kernel_rfl)
                      have a323 : fr' 323 = (.int .i64 x776 : Value) := hA 2 (by kernel_rfl)
                      obtain ⟨g', hg'⟩ : ∃ g' : Fr, fr' = g'.upds [(321, sv l766), (323, (.int .i64 x776 : Value))] := ⟨_, Fr.upds_self _ _ ⟨a321, a323, trivial⟩⟩
                      subst hg'
                      exact SA.val (v := pv (some (p783.1, (p783.2 + x776.toNat * 4)))) rfl (wantN rfl) (fun w => ev_iaddr rfl Tryd.underlying26 (size := 4) (by kernel_rfl) rfl rfl c784 c785 c786 w)
                     ·try clear h
                      intro fr' T' H' hle hs hA
                      have a329 : fr' 329 = pv (some (p783.1, (p783.2 + x776.toNat * 4))) := hA 8 (by kernel_rfl)
                      obtain ⟨g', hg'⟩ : ∃ g' : Fr, fr' = g'.upds [(329, pv (some (p783.1, (p783.2 + x776.toNat * 4))))] := ⟨_, Fr.upds_self _ _ ⟨a329, trivial⟩⟩
                      subst hg'
                      exact SA.val (v := pv (some (p783.1, (p783.2 + x776.toNat * 4)))) rfl (wantN rfl) (fun _ => by kernel_rfl)
                     ·try clear h
                      intro fr' T' H' hle hs hA
                      have a330 : fr' 330 = pv (some (p783.1, (p783.2 + x776.toNat * 4))) := hA 9 (by kernel_rfl)
                      obtain ⟨g', hg'⟩ : ∃ g' : Fr, fr' = g'.upds [(330, pv (some (p783.1, (p783.2 + x776.toNat * 4))))] := ⟨_, Fr.upds_self _ _ ⟨a330, trivial⟩⟩
                      subst hg'
                      exact SA.val (v := pv (some (p783.1, ((p783.2 + x776.toNat * 4) + 2)))) rfl (wantN rfl) (fun _ => by kernel_rfl)
                     ·try clear h
                      intro fr' T' H' hle hs hA
                      have a328 : fr' 328 = (.string (⟨bs780.toArray⟩ : ByteArray) : Value) := hA 7 (by kernel_rfl)
                      have a331 : fr' 331 = pv (some (p783.1, ((p783.2 + x776.toNat * 4) + 2))) := hA 10 (by kernel_rfl)
                      obtain ⟨g', hg'⟩ : ∃ g' : Fr, fr' = g'.upds [(328, (.string (⟨bs780.toArray⟩ : ByteArray) : Value)), (331, pv (some (p783.1, ((p783.2 + x776.toNat * 4) + 2))))] := ⟨_, Fr.upds_self _ _ ⟨a328, a331, trivial⟩⟩
                      subst hg'
                      exact SA.wst2 (X := SH.setl H767 (p783.1, ((p783.2 + x776.toNat * 4) + 2)) [.string (⟨bs780.toArray⟩ : ByteArray)]) (Hc := H767) hle rfl (fun _ h => h) (fun k => SOps.storeL (p := (p783.1, ((p783.2 + x776.toNat * 4) + 2))) (v := .string (⟨bs780.toArray⟩ : ByteArray)) (cs := [.string (⟨bs780.toArray⟩ : ByteArray)]) rfl rfl (wantN rfl) (size := 1) (by kernel_rfl) rfl rfl rfl rfl (by simp [Value.oneCell', errV_one, pv, sv]) c791 (k c792))
                     ·try clear h
                      intro fr' T' H' hle hs hA
                      have a324 : fr' 324 = sv l766 := hA 3 (by kernel_rfl) (by kernel_rfl)
                      have a326 : fr' 326 = (.int .i64 x778 : Value) := hA 5 (by kernel_rfl) (by kernel_rfl)
                      obtain ⟨g', hg'⟩ : ∃ g' : Fr, fr' = g'.upds [(324, sv l766), (326, (.int .i64 x778 : Value))] := ⟨_, Fr.upds_self _ _ ⟨a324, a326, trivial⟩⟩
                      subst hg'
                      exact SA.val (v := pv (some (p787.1, (p787.2 + x778.toNat * 4)))) rfl (wantN rfl) (fun w => ev_iaddr rfl Tryd.underlying26 (size := 4) (by kernel_rfl) rfl rfl c788 c789 c790 w)
                     ·try clear h
                      intro fr' T' H' hle hs hA
                      have a332 : fr' 332 = pv (some (p787.1, (p787.2 + x778.toNat * 4))) := hA 12 (by kernel_rfl) (by kernel_rfl)
                      obtain ⟨g', hg'⟩ : ∃ g' : Fr, fr' = g'.upds [(332, pv (some (p787.1, (p787.2 + x778.toNat * 4))))] := ⟨_, Fr.upds_self _ _ ⟨a332, trivial⟩⟩
                      subst hg'
                      exact SA.val (v := pv (some (p787.1, ((p787.2 + x778.toNat * 4) + 3)))) rfl (wantN rfl) (fun _ => by kernel_rfl)
                     ·intro fr' T' H' hle hs hA hW
                      have a3 : fr' 3 = pv p716 := hs 3 (by kernel_rfl)
                      have a4 : fr' 4 = sv l766 := hs 4 (by kernel_rfl)
                      have a29 : fr' 29 = sv l720 := hs 29 (by kernel_rfl)
                      have a30 : fr' 30 = (.int .i64 x721 : Value) := hs 30 (by kernel_rfl)
                      have a31 : fr' 31 = (.int .i64 x722 : Value) := hs 31 (by kernel_rfl)
                      have a333 : fr' 333 = pv (some (p787.1, ((p787.2 + x778.toNat * 4) + 3))) := hA 13 (Nat.le_of_ble_eq_true rfl) (by kernel_rfl) (by kernel_rfl)
                      obtain ⟨g', hg'⟩ : ∃ g' : Fr, fr' = g'.upds [(3, pv p716), (4, sv l766), (29, sv l720), (30, (.int .i64 x721 : Value)), (31, (.int .i64 x722 : Value)), (333, pv (some (p787.1, ((p787.2 + x778.toNat * 4) + 3))))] := ⟨_, Fr.upds_self _ _ ⟨a3, a4, a29, a30, a31, a333, trivial⟩⟩
                      subst hg'
                      obtain ⟨_, hW⟩ := hW
                      refine SOps.forget (SH.setl H767 (p783.1, ((p783.2 + x776.toNat * 4) + 2)) [.string (⟨bs780.toArray⟩ : ByteArray)]) hW ?_
                      clear hle hs hA hW
                      obtain ⟨c793, h⟩ := h
                      refine SOps.storeL (p := (p787.1, ((p787.2 + x778.toNat * 4) + 3))) (v := .bool true) (cs := [.bool true]) rfl rfl (wantN rfl) (size := 1) (by kernel_rfl) rfl rfl rfl rfl (by simp [Value.oneCell', errV_one, pv, sv]) c793 ?_
                      refine SOps.nil ?_
                      exact ⟨_, p716, l766, l720, x721, x722, Fr.upds_self _ _ ⟨rfl, rfl, rfl, rfl, rfl, trivial⟩, h⟩
                   ·replace h := h.2 c735
                    have dc735 : (x719 == 0) = false := (beq_eq_false_iff_ne.mpr c735)
                    refine SW.cond_f (t := (x719 == 0)) rfl dc735 ?_
                    refine SW.skip ?_
                    exact ⟨_, p716, l717, l720, x721, x722, Fr.upds_self _ _ ⟨rfl, rfl, rfl, rfl, rfl, trivial⟩, h⟩
                 ·skip
                  refine SW.blockJ (fun fr H => ∃ (g : Fr) (p709 : Option (Nat × Nat)) (l710 : Sl) (b711 : Nat) (x712 : Int) (l713 : Sl) (x714 : Int) (x715 : Int), fr = g.upds [(3, pv p709), (4, sv l710), (6, pv (some (b711, 0))), (15, (.int .i64 x712 : Value)), (29, sv l713), (30, (.int .i64 x714 : Value)), (31, (.int .i64 x715 : Value))] ∧ ladinglaw19_NetPlays.j20 F K (ladinglaw19_NetPlays.l1 F K k1) p709 l710 b711 x712 l713 x714 x715 H) ?_ ?_
                  ·clear h
                   rintro fr H ⟨g, p709, l710, b711, x712, l713, x714, x715, rfl, h⟩
                   unfold ladinglaw19_NetPlays.j20 at h
                   exact ⟨_, p709, l710, b711, x712, l713, x714, x715, Fr.upds_self _ _ ⟨rfl, rfl, rfl, rfl, rfl, rfl, rfl, trivial⟩, h⟩
                  ·skip
                   refine SW.seq ?_
                   refine SW.region ?_
                   slimval (.bool false)
                   slimval (.bool true)
                   slimval (.bool true)
                   refine SOps.nil ?_
                   refine SW.cond_t (t := true) rfl rfl ?_
                   refine SW.skip ?_
                   exact ⟨_, p626, l627, b628, x629, l630, x631, x632, Fr.upds_self _ _ ⟨rfl, rfl, rfl, rfl, rfl, rfl, rfl, trivial⟩, h⟩
                ·replace h := h.2 c708
                 have dc708 : (x633 == 6) = false := (beq_eq_false_iff_ne.mpr c708)
                 refine SW.cond_f (t := (x633 == 6)) rfl dc708 ?_
                 refine SW.seq ?_
                 refine SW.region ?_
                 slimval (.bool (x633 == 7))
                 slimval (.bool (x633 == 7))
                 refine SOps.nil ?_
                 by_cases c797 : x633 = 7
                 ·replace h := h.1 c797
                  have dc797 : (x633 == 7) = true := (beq_iff_eq.mpr c797)
                  refine SW.cond_t (t := (x633 == 7)) rfl dc797 ?_
                  refine SW.seq ?_
                  refine SW.region ?_
                  slimval (sv Sl.nil)
                  refine SOps.nil ?_
                  refine SW.seq ?_
                  refine SW.seq ?_
                  refine SW.region ?_
                  slimval (sv l627)
                  slimval (.int .i64 (l627.len : Int))
                  slimval (.int .i64 0)
                  refine SOps.nil ?_
                  refine SW.block ?_
                  refine SW.loop (fun k4 fr H => ∃ (g : Fr) (p798 : Option (Nat × Nat)) (l799 : Sl) (b800 : Nat) (l801 : Sl) (l802 : Sl) (x803 : Int) (x804 : Int) (l805 : Sl) (x806 : Int) (x807 : Int), fr = g.upds [(3, pv p798), (4, sv l799), (6, pv (some (b800, 0))), (17, sv l801), (29, sv l802), (30, (.int .i64 x803 : Value)), (31, (.int .i64 x804 : Value)), (336, sv l805), (337, (.int .i64 x806 : Value)), (338, (.int .i64 x807 : Value))] ∧ ladinglaw19_NetPlays.l4 F K (ladinglaw19_NetPlays.l1 F K k1) k4 p798 l799 b800 l801 l802 x803 x804 l805 x806 x807 H) F ⟨_, p626, l627, b628, Sl.nil, l630, x631, x632, l627, (l627.len : Int), 0, (Fr.upds_self _ _ ⟨rfl, rfl, rfl, rfl, rfl, rfl, rfl, rfl, rfl, rfl, trivial⟩), h⟩ ?_
                  clear h
                  rintro k4 fr H ⟨g, p798, l799, b800, l801, l802, x803, x804, l805, x806, x807, rfl, h⟩
                  cases k4 with
                  | zero => exact h.elim
                  | succ k4 =>
                   replace h : ladinglaw19_NetPlays.r4 F K (ladinglaw19_NetPlays.l1 F K k1) (ladinglaw19_NetPlays.l4 F K (ladinglaw19_NetPlays.l1 F K k1) k4) p798 l799 b800 l801 l802 x803 x804 l805 x806 x807 H := h
                   unfold ladinglaw19_NetPlays.r4 at h
                   refine SW.seq ?_
                   refine SW.region ?_
                   slimval (.bool (decide (x807 < x806)))
                   refine SOps.nil ?_
                   refine SW.seq ?_
                   by_cases c808 : x807 < x806
                   ·replace h := h.1 c808
                    have dc808 : (decide (x807 < x806)) = true := (decide_eq_true c808)
                    refine SW.cond_t (t := decide (x807 < x806)) rfl dc808 ?_
                    refine SW.skip ?_
                    refine SW.seqJ (fun fr H => ∃ (g : Fr) (p849 : Option (Nat × Nat)) (l850 : Sl) (b851 : Nat) (l852 : Sl) (l853 : Sl) (x854 : Int) (x855 : Int) (l856 : Sl) (x857 : Int) (x858 : Int), fr = g.upds [(3, pv p849), (4, sv l850), (6, pv (some (b851, 0))), (17, sv l852), (29, sv l853), (30, (.int .i64 x854 : Value)), (31, (.int .i64 x855 : Value)), (336, sv l856), (337, (.int .i64 x857 : Value)), (338, (.int .i64 x858 : Value))] ∧ ladinglaw19_NetPlays.j21 F K (ladinglaw19_NetPlays.l1 F K k1) (ladinglaw19_NetPlays.l4 F K (ladinglaw19_NetPlays.l1 F K k1) k4) p849 l850 b851 l852 l853 x854 x855 l856 x857 x858 H) ?_ ?_
                    ·clear h
                     rintro fr H ⟨g, p849, l850, b851, l852, l853, x854, x855, l856, x857, x858, rfl, h⟩
                     unfold ladinglaw19_NetPlays.j21 at h
                     refine SW.region ?_
                     slimval (.int .i64 (w64 (x858 + 1)))
                     slimval (.int .i64 (w64 (x858 + 1)))
                     refine SOps.nil ?_
                     exact ⟨k4, Nat.lt_succ_self k4, _, p849, l850, b851, l852, l853, x854, x855, l856, x857, w64 (x858 + 1), (Fr.upds_self _ _ ⟨rfl, rfl, rfl, rfl, rfl, rfl, rfl, rfl, rfl, rfl, trivial⟩), h⟩
                    ·skip
                     refine SW.blockJ (fun fr H => ∃ (g : Fr) (p839 : Option (Nat × Nat)) (l840 : Sl) (b841 : Nat) (l842 : Sl) (l843 : Sl) (x844 : Int) (x845 : Int) (l846 : Sl) (x847 : Int) (x848 : Int), fr = g.upds [(3, pv p839), (4, sv l840), (6, pv (some (b841, 0))), (17, sv l842), (29, sv l843), (30, (.int .i64 x844 : Value)), (31, (.int .i64 x845 : Value)), (336, sv l846), (337, (.int .i64 x847 : Value)), (338, (.int .i64 x848 : Value))] ∧ ladinglaw19_NetPlays.j22 F K (ladinglaw19_NetPlays.l1 F K k1) (ladinglaw19_NetPlays.l4 F K (ladinglaw19_NetPlays.l1 F K k1) k4) p839 l840 b841 l842 l843 x844 x845 l846 x847 x848 H) ?_ ?_
                     ·clear h
                      rintro fr H ⟨g, p839, l840, b841, l842, l843, x844, x845, l846, x847, x848, rfl, h⟩
                      unfold ladinglaw19_NetPlays.j22 at h
                      exact ⟨_, p839, l840, b841, l842, l843, x844, x845, l846, x847, x848, Fr.upds_self _ _ ⟨rfl, rfl, rfl, rfl, rfl, rfl, rfl, rfl, rfl, rfl, trivial⟩, h⟩
                     ·skip
                      refine SW.seq ?_
                      refine SW.region ?_
                      obtain ⟨p809, c810, c811, c812, h⟩ := h
                      refine SOps.val (v := pv (some (p809.1, (p809.2 + x807.toNat * 4)))) rfl (wantN rfl) (fun w => ev_iaddr rfl Tryd.underlying26 (size := 4) (by kernel_rfl) rfl rfl c810 c811 c812 w) ?_
                      obtain ⟨x813, x814, s815, q816, c817, h⟩ := h
                      refine SOps.rd (v := .agg #[.int .i64 x813, .int .i64 x814, .string s815, .bool q816]) rfl (wantN rfl) (fun w hw => ev_loadN rfl (fun _ => by kernel_rfl) (size := 4) (by kernel_rfl) (p := (p809.1, (p809.2 + x807.toNat * 4))) rfl rfl c817 w hw) ?_
                      refine SOps.alloc rfl rfl (wantN rfl) (z := .agg #[.int .i64 0, .int .i64 0, .string ByteArray.empty, .bool false]) (by kernel_rfl) (fun b818 c819 => ?_)
                      replace h := h b818 c819
                      obtain ⟨c820, h⟩ := h
                      refine SOps.storeL (p := (b818, 0)) (v := .agg #[.int .i64 x813, .int .i64 x814, .string s815, .bool q816]) (cs := [.int .i64 x813, .int .i64 x814, .string s815, .bool q816]) rfl rfl (wantN rfl) (size := 4) (by kernel_rfl) rfl rfl rfl rfl (by simp [Value.oneCell', errV_one, pv, sv]) c820 ?_
                      refine SOps.nil ?_
                      refine SW.seq ?_
                      refine SW.region ?_
                      slimval (pv (some (b818, 0)))
                      slimval (pv (some (b818, 0)))
                      obtain ⟨x821, c822, h⟩ := h
                      refine SOps.rd (v := .int .i64 x821) rfl (wantN rfl) (fun w hw => ev_load1 rfl (fun _ => by kernel_rfl) (p := (b818, 0)) rfl c822 w hw) ?_
                      slimval (pv (some (b800, 1)))
                      obtain ⟨x823, c824, h⟩ := h
                      refine SOps.rd (v := .int .i64 x823) rfl (wantN rfl) (fun w hw => ev_load1 rfl (fun _ => by kernel_rfl) (p := (b800, 1)) rfl c824 w hw) ?_
                      slimval (.bool (x821 != x823))
                      slimval (.bool (x821 != x823))
                      by_cases c825 : x821 ≠ x823
                      ·replace h := h.1 c825
                       have dc825 : (x821 != x823) = true := (bne_iff_ne.mpr c825)
                       refine SOps.val (v := pv (some (b818, 0))) rfl (wantY (c := (x821 != x823)) rfl rfl rfl dc825) (fun _ => by kernel_rfl) ?_
                       refine SOps.val (v := pv (some (b818, 1))) rfl (wantY (c := (x821 != x823)) rfl rfl rfl dc825) (fun _ => by kernel_rfl) ?_
                       obtain ⟨x826, c827, h⟩ := h
                       refine SOps.rd (v := .int .i64 x826) rfl (wantY (c := (x821 != x823)) rfl rfl rfl dc825) (fun w hw => ev_load1 rfl (fun _ => by kernel_rfl) (p := (b818, 1)) rfl c827 w hw) ?_
                       refine SOps.val (v := pv (some (b800, 1))) rfl (wantY (c := (x821 != x823)) rfl rfl rfl dc825) (fun _ => by kernel_rfl) ?_
                       obtain ⟨x828, c829, h⟩ := h
                       refine SOps.rd (v := .int .i64 x828) rfl (wantY (c := (x821 != x823)) rfl rfl rfl dc825) (fun w hw => ev_load1 rfl (fun _ => by kernel_rfl) (p := (b800, 1)) rfl c829 w hw) ?_
                       refine SOps.val (v := .bool (x826 != x828)) rfl (wantY (c := (x821 != x823)) rfl rfl rfl dc825) (fun _ => by kernel_rfl) ?_
                       refine SOps.val (v := .bool (x826 != x828)) rfl (wantN rfl) (fun w => ev_pickT (v := .bool (x826 != x828)) rfl (t := (x821 != x823)) rfl dc825 rfl w) ?_
                       refine SOps.nil ?_
                       by_cases c830 : x826 ≠ x828
                       ·replace h := h.1 c830
                        have dc830 : (x826 != x828) = true := (bne_iff_ne.mpr c830)
                        refine SW.cond_t (t := (x826 != x828)) rfl dc830 ?_
                        refine SW.region ?_
                        slimval (sv l801)
                        obtain ⟨x831, x832, s833, q834, c835, h⟩ := h
                        refine SOps.rd (v := .agg #[.int .i64 x831, .int .i64 x832, .string s833, .bool q834]) rfl (wantN rfl) (fun w hw => ev_loadN rfl (fun _ => by kernel_rfl) (size := 4) (by kernel_rfl) (p := (b818, 0)) rfl rfl c835 w hw) ?_
                        refine SOps.litAppend (E := 36) (z := .agg #[.int .i64 0, .int .i64 0, .string ByteArray.empty, .bool false]) (size := 4) (bytes := 40) (cs := #[.int .i64 x831, .int .i64 x832, .string s833, .bool q834]) rfl rfl (wantN rfl) (fun _ => by kernel_rfl) rfl rfl (fun _ => wantN rfl) Tryd.underlying26 Tryd.underlying26 (by kernel_rfl) rfl rfl (fun _ => rfl) (AppendQ.mono h ?_)
                        clear h
                        intro l836 H837 h b838
                        slimval (sv l836)
                        refine SOps.nil ?_
                        exact ⟨_, p798, l799, b800, l836, l802, x803, x804, l805, x806, x807, Fr.upds_self _ _ ⟨rfl, rfl, rfl, rfl, rfl, rfl, rfl, rfl, rfl, rfl, trivial⟩, h⟩
                       ·replace h := h.2 c830
                        have dc830 : (x826 != x828) = false := (by simpa using c830)
                        refine SW.cond_f (t := (x826 != x828)) rfl dc830 ?_
                        refine SW.skip ?_
                        exact ⟨_, p798, l799, b800, l801, l802, x803, x804, l805, x806, x807, Fr.upds_self _ _ ⟨rfl, rfl, rfl, rfl, rfl, rfl, rfl, rfl, rfl, rfl, trivial⟩, h⟩
                      ·replace h := h.2 c825
                       have dc825 : (x821 != x823) = false := (by simpa using c825)
                       refine SOps.off rfl (wantX (c := (x821 != x823)) rfl rfl rfl dc825) ?_
                       refine SOps.off rfl (wantX (c := (x821 != x823)) rfl rfl rfl dc825) ?_
                       refine SOps.off rfl (wantX (c := (x821 != x823)) rfl rfl rfl dc825) ?_
                       refine SOps.off rfl (wantX (c := (x821 != x823)) rfl rfl rfl dc825) ?_
                       refine SOps.off rfl (wantX (c := (x821 != x823)) rfl rfl rfl dc825) ?_
                       refine SOps.off rfl (wantX (c := (x821 != x823)) rfl rfl rfl dc825) ?_
                       refine SOps.val (v := .bool false) rfl (wantN rfl) (fun w => ev_pickF (v := .bool false) rfl (t := (x821 != x823)) rfl dc825 rfl w) ?_
                       refine SOps.nil ?_
                       refine SW.cond_f (t := false) rfl rfl ?_
                       refine SW.skip ?_
                       exact ⟨_, p798, l799, b800, l801, l802, x803, x804, l805, x806, x807, Fr.upds_self _ _ ⟨rfl, rfl, rfl, rfl, rfl, rfl, rfl, rfl, rfl, rfl, trivial⟩, h⟩
                   ·replace h := h.2 c808
                    have dc808 : (decide (x807 < x806)) = false := (decide_eq_false c808)
                    refine SW.cond_f (t := decide (x807 < x806)) rfl dc808 ?_
                    refine SW.exit ?_
                    refine SW.seq ?_
                    refine SW.seq ?_
                    refine SW.region ?_
                    slimval (pv p798)
                    slimval (pv (some (b800, 1)))
                    obtain ⟨x861, c862, h⟩ := h
                    refine SOps.rd (v := .int .i64 x861) rfl (wantN rfl) (fun w hw => ev_load1 rfl (fun _ => by kernel_rfl) (p := (b800, 1)) rfl c862 w hw) ?_
                    refine SOps.enter rfl (wantN rfl) (fun _ => by kernel_rfl) (net_Net_Clear.sound F p798 x861 H _ h) ?_
                    clear h
                    rintro v H864 ⟨x863, rfl, h⟩
                    slimval (sv l799)
                    slimval (.int .i64 (l799.len : Int))
                    slimval (sv l801)
                    slimval (.int .i64 (l801.len : Int))
                    slimval (.int .i64 (w64 ((l799.len : Int) - (l801.len : Int))))
                    slimval (.bool (x863 != (w64 ((l799.len : Int) - (l801.len : Int)))))
                    refine SOps.nil ?_
                    by_cases c865 : x863 ≠ (w64 ((l799.len : Int) - (l801.len : Int)))
                    ·replace h := h.1 c865
                     have dc865 : (x863 != (w64 ((l799.len : Int) - (l801.len : Int)))) = true := (bne_iff_ne.mpr c865)
                     refine SW.cond_t (t := (x863 != (w64 ((l799.len : Int) - (l801.len : Int))))) rfl dc865 ?_
                     refine SW.seq ?_
                     refine SW.region ?_
                     slimval (.bool false)
                     refine SOps.nil ?_
                     obtain ⟨Hr, hr, h⟩ := h
                     exact SW.ret (retQ.mk (.bool false) (res1 rfl rfl) hr ⟨false, rfl, h⟩)
                    ·replace h := h.2 c865
                     have dc865 : (x863 != (w64 ((l799.len : Int) - (l801.len : Int)))) = false := (by simpa using c865)
                     refine SW.cond_f (t := (x863 != (w64 ((l799.len : Int) - (l801.len : Int))))) rfl dc865 ?_
                     refine SW.skip ?_
                     refine SW.region ?_
                     slimval (sv l801)
                     slimval (sv l801)
                     refine SOps.nil ?_
                     exact ⟨_, p798, l801, l802, x803, x804, Fr.upds_self _ _ ⟨rfl, rfl, rfl, rfl, rfl, trivial⟩, h⟩
                 ·replace h := h.2 c797
                  have dc797 : (x633 == 7) = false := (beq_eq_false_iff_ne.mpr c797)
                  refine SW.cond_f (t := (x633 == 7)) rfl dc797 ?_
                  refine SW.skip ?_
                  exact ⟨_, p626, l627, l630, x631, x632, Fr.upds_self _ _ ⟨rfl, rfl, rfl, rfl, rfl, trivial⟩, h⟩
           ·skip
            refine SW.seq ?_
            refine SW.region ?_
            slimval (.bool (x571 == 1))
            slimval (.bool (x571 == 1))
            refine SOps.nil ?_
            by_cases c625 : x571 = 1
            ·replace h := h.1 c625
             have dc625 : (x571 == 1) = true := (beq_iff_eq.mpr c625)
             refine SW.cond_t (t := (x571 == 1)) rfl dc625 ?_
             refine SW.skip ?_
             exact ⟨_, p564, l565, b566, x567, l568, x569, x570, x571, (x571 == 1), Fr.upds_self _ _ ⟨rfl, rfl, rfl, rfl, rfl, rfl, rfl, rfl, rfl, rfl, trivial⟩, h⟩
            ·replace h := h.2 c625
             have dc625 : (x571 == 1) = false := (beq_eq_false_iff_ne.mpr c625)
             refine SW.cond_f (t := (x571 == 1)) rfl dc625 ?_
             refine SW.region ?_
             slimval (.bool (x571 == 2))
             slimval (.bool (x571 == 2))
             refine SOps.nil ?_
             exact ⟨_, p564, l565, b566, x567, l568, x569, x570, x571, (x571 == 2), Fr.upds_self _ _ ⟨rfl, rfl, rfl, rfl, rfl, rfl, rfl, rfl, rfl, rfl, trivial⟩, h⟩
       ·skip
        refine SW.seq ?_
        refine SW.region ?_
        slimval (.bool false)
        refine SOps.nil ?_
        refine SW.cond_f (t := false) rfl rfl ?_
        refine SW.skip ?_
        exact ⟨_, p8, l9, b24, 9, l10, x11, x12, Fr.upds_self _ _ ⟨rfl, rfl, rfl, rfl, rfl, rfl, rfl, rfl, trivial⟩, h⟩
    ·replace h := h.2 c13
     have dc13 : (decide (x12 < x11)) = false := (decide_eq_false c13)
     refine SW.cond_f (t := decide (x12 < x11)) rfl dc13 ?_
     refine SW.exit ?_
     refine SW.seq ?_
     refine SW.region ?_
     slimval (.bool true)
     refine SOps.nil ?_
     obtain ⟨Hr, hr, h⟩ := h
     exact SW.ret (retQ.mk (.bool true) (res1 rfl rfl) hr ⟨true, rfl, h⟩)
 ·replace h := h.2 c4
  have dc4 : q2 = false := (Bool.eq_false_iff.mpr c4)
  refine SW.cond_t (t := !q2) rfl (not_f dc4) ?_
  refine SW.seq ?_
  refine SW.region ?_
  slimval (.bool false)
  refine SOps.nil ?_
  obtain ⟨Hr, hr, h⟩ := h
  exact SW.ret (retQ.mk (.bool false) (res1 rfl rfl) hr ⟨false, rfl, h⟩)

end Go.Proofs.YtkfbmoekghbgbaaDoor.K
