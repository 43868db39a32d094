/- What the laws MsgGets and MsgPuts have in common. -/
import Derived.Test.YtkfbmoekghbgbaaDoorSpecRef18
import Derived.Test.YtkfbmoekghbgbaaDoorGladinglaw18
set_option linter.unusedVariables false
set_option linter.unusedSimpArgs false
namespace Go.Proofs.YtkfbmoekghbgbaaDoor.K
open Go

section
variable {F : Nat} {H : SH} {m : MM} {l : Sl}
theorem got_le {H : SH} {b : Nat} {o : AO} {vs : List Value} (hb : H b = none) : SH.le H (SH.setl (SH.upd H b o) (b, 0) vs) := (On.setl (On.new hb)).le
theorem got_on {H : SH} {b : Nat} {m' : MM} {l' : Sl} (hb : H b = none) : On (Blk b (mcell m' l')) H (SH.setl (SH.upd H b (mcell zeroM Sl.nil)) (b, 0) [.int .i64 m'.kind, .int .i64 m'.ver, .int .i64 m'.i, .string m'.text, sv l']) := On.setl (k := 0) (vs := [.int .i64 m'.kind, .int .i64 m'.ver, .int .i64 m'.i, .string m'.text, sv l']) (On.new hb)
theorem zero_wrs {H : SH} {b : Nat} : SH.wrs (SH.upd H b (mcell zeroM Sl.nil)) (b, 0) 5 := wrs_upd rfl (Nat.le_of_ble_eq_true rfl)
theorem parts18_spec {K : Int → Int → Int → ByteArray → Sl → SH → Prop} (k : K m.kind m.ver m.i m.text l H) : ladinglaw18_parts.wp F m.kind m.ver m.i m.text l H K := by
  refine fun b6 h6 b8 h8 => ?_
  have hne : b6 ≠ b8 := by rintro rfl; rw [SH.upd_same] at h8; cases h8
  have hle : SH.le H ((H.upd b6 (mcell m l)).upd b8 (pcell zeroM Sl.nil)) := (le_upd h6).trans (le_upd h8)
  have g6 : ((H.upd b6 (mcell m l)).upd b8 (pcell zeroM Sl.nil)) b6 = some (mcell m l) := by rw [SH.upd_ne _ _ hne, SH.upd_same]
  have g8 : ((H.upd b6 (mcell m l)).upd b8 (pcell zeroM Sl.nil)) b8 = some (pcell zeroM Sl.nil) := SH.upd_same _ _ _
  have o8 : On (Blk b8 (pcell zeroM Sl.nil)) (H.upd b6 (mcell m l)) ((H.upd b6 (mcell m l)).upd b8 (pcell zeroM Sl.nil)) := On.new h8
  have q7 := On.setl (k := 0) (vs := [.int .i64 m.kind, .int .i64 m.ver, .int .i64 m.i, .string m.text, sv l]) o8
  exact ⟨m.kind, ⟨_, g6, rfl⟩, m.ver, ⟨_, g6, rfl⟩, m.i, ⟨_, g6, rfl⟩, m.text, ⟨_, g6, rfl⟩, l, ⟨_, g6, rfl⟩, o8.wrs rfl (Nat.le_of_ble_eq_true rfl), m.kind, m.ver, m.i, m.text, l, rowN (On.blk.1 q7).2.2 (fun j u hu => by rw [Nat.zero_add]; exact hu), H, (le_upd h6).trans q7.le, k⟩
theorem zin {H : SH} : MIn H zeroM Sl.nil := ⟨rfl, .inl rfl⟩
end
end Go.Proofs.YtkfbmoekghbgbaaDoor.K
