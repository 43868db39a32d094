/- The law MsgPuts: what it comes to. -/
import Derived.Test.YtkfbmoekghbgbaaDoorLawMsg2
import Derived.Test.YtkfbmoekghbgbaaDoorGladinglaw18MsgPuts
set_option linter.unusedVariables false
set_option linter.unusedSimpArgs false
namespace Go.Proofs.YtkfbmoekghbgbaaDoor.K
open Go
section
variable {F : Nat} {H : SH} {m : MM} {l : Sl}
theorem getP_turned {t : List UInt8} (ht : t.length ≤ 60000) {i : Nat} {d : UInt8} (hi : i < (sealL t).length) (hd : d ≠ (sealL t)[i]) : ∃ e, getP ((sealL t).set i d) = .error e := by
  unfold getP
  cases hn : nextL ((sealL t).set i d) with
  | no c => exact ⟨_, rfl⟩
  | ok n =>
    have h1 := seal_turned ht hi hd hn
    have h2 := (nextL_ok hn).1
    rw [List.length_set] at h2
    refine ⟨_, if_pos ?_⟩
    rw [List.length_set]; omega
theorem Puts_j (hF : 70000 ≤ F) {x y : Int} (hx : 0 ≤ x ∧ x ≤ 65535) (hy : 0 ≤ y ∧ y ≤ 255) {b8 : Nat} {G : SH} (g8 : G b8 = some (mcell m l)) (hin : MIn G m l) (hm : m.may = true) : ladinglaw18_MsgPuts.j1 F (fun b _ => b = true) x y b8 true (ofL (sealL m.bytes)) none G := by
  have hbl := bytes_len hm
  have hl : (sealL m.bytes).length = m.bytes.length + 6 := sealL_len _
  have hsz : (ofL (sealL m.bytes)).size = m.bytes.length + 6 := by rw [ofL_size, hl]
  have h20 := (may_bounds hm).2.2.2.2.2.1
  refine br_t rfl (Get_spec hF (by omega) (by omega) ?_)
  rw [bs_ofL, getP_seal hm]
  intro l2 Hr o b78 hb78
  have g := got_on (m' := m) (l' := l2) hb78
  have gle : SH.le G _ := o.le.trans g.le
  have hin2 : MIn _ m l2 := MIn.le ⟨by have := o.len; rw [strc_len] at this; omega, o.row⟩ g.le
  have r78 := mrow (On.blk.1 g).2.2
  have r8 := mrow (gle _ _ g8)
  have hin1 := hin.le gle
  refine ⟨zero_wrs, o_none ⟨m.kind, m.ver, m.i, m.text, l, r8, parts18_spec (refPut_spec hF hin1 hm (br_t rfl (o_none ⟨m.kind, m.ver, m.i, m.text, l2, r78, m.kind, m.ver, m.i, m.text, l, r8, (MSame_spec (by omega) hin2 hin1 (by omega) (fun q hq => ?_)).2⟩)))⟩⟩
  obtain rfl : q = true := hq.2 rfl
  refine br_t rfl ⟨m.kind, m.ver, m.i, m.text, l2, r78, m.kind, m.ver, m.i, m.text, l, r8, (MSame_spec (by omega) hin2 hin1 (by omega) (fun q hq => ?_)).1⟩
  obtain rfl : q = true := hq.2 rfl
  refine br_t rfl fun b hb n hn => ?_
  clear hq
  have hx64 : w64 x = x := w64_id (by omega)
  dsimp only
  rw [hx64, hsz, Int.tmod_eq_emod_of_nonneg hx.1]
  have hi0 := Int.emod_nonneg x (show ((m.bytes.length + 6 : Nat) : Int) ≠ 0 by omega)
  have hi1 := Int.emod_lt_of_pos x (show 0 < ((m.bytes.length + 6 : Nat) : Int) by omega)
  obtain ⟨i, hi⟩ := Int.eq_ofNat_of_zero_le hi0
  rw [hi] at hi0 hi1 ⊢
  have hil : i < (sealL m.bytes).length := by omega
  have hcells : (ofL (sealL m.bytes)).data.toList = sealL m.bytes := bs_ofL _
  obtain ⟨c, hc⟩ : ∃ c : UInt8, y = ((c.toNat : Nat) : Int) := ⟨UInt8.ofNat y.toNat, by rw [UInt8.toNat_ofNat_of_lt' (by show _ < 256; omega)]; omega⟩
  have hget : (byteCells (ofL (sealL m.bytes)).data.toList)[0 + (i : Int).toNat * 1]? = some (.int .u8 (((sealL m.bytes)[i]).toNat : Int)) := by
    rw [hcells, show 0 + (i : Int).toNat * 1 = i by omega]
    simp [byteCells, hil]
  refine ⟨by omega, (b, 0), rfl, by omega, by omega, (((sealL m.bytes)[i]).toNat : Int), has_upd hget, (b, 0), rfl, by omega, by omega, wrs_upd rfl (by simp only [byteCells_len]; rw [hcells]; omega), ?_⟩
  rw [hc, xor8S, setl_upd]
  simp only [hcells, show 0 + (i : Int).toNat * 1 = i by omega, wrl_bytes hil]
  have hyl : ((sealL m.bytes).set i ((sealL m.bytes)[i] ^^^ c)).length = m.bytes.length + 6 := by rw [List.length_set, hl]
  have hosz : (⟨((sealL m.bytes).set i ((sealL m.bytes)[i] ^^^ c)).toArray⟩ : ByteArray).size = m.bytes.length + 6 := by
    have := ofL_size ((sealL m.bytes).set i ((sealL m.bytes)[i] ^^^ c))
    rw [hyl] at this; exact this
  refine ⟨(sealL m.bytes).set i ((sealL m.bytes)[i] ^^^ c), by rw [hyl], row_upd rfl, Get_spec hF (by omega) (by omega) ?_⟩
  rw [show bs (⟨((sealL m.bytes).set i ((sealL m.bytes)[i] ^^^ c)).toArray⟩ : ByteArray) = (sealL m.bytes).set i ((sealL m.bytes)[i] ^^^ c) from bs_ofL _]
  by_cases hc0 : c = 0
  · have hcz : ((c.toNat : Nat) : Int) = 0 := by rw [hc0]; rfl
    cases getP ((sealL m.bytes).set i ((sealL m.bytes)[i] ^^^ c)) with
    | error e => exact fun b154 hb => ⟨zero_wrs, fun _ => ⟨_, .refl _, trivial⟩, fun h => absurd hcz h⟩
    | ok m' => exact fun l3 Hr o b154 hb => ⟨zero_wrs, fun _ => ⟨_, .refl _, trivial⟩, fun h => absurd hcz h⟩
  · have hne : (sealL m.bytes)[i] ^^^ c ≠ (sealL m.bytes)[i] := by
      intro h
      apply hc0
      have : (sealL m.bytes)[i] ^^^ ((sealL m.bytes)[i] ^^^ c) = (sealL m.bytes)[i] ^^^ (sealL m.bytes)[i] := by rw [h]
      rwa [← UInt8.xor_assoc, UInt8.xor_self, UInt8.zero_xor] at this
    obtain ⟨e, he⟩ := getP_turned (by omega) hil hne
    rw [he]
    intro b154 hb154
    have g := got_on (m' := zeroM) (l' := Sl.nil) hb154
    refine ⟨zero_wrs, fun _ => ⟨_, .refl _, trivial⟩, fun h => o_some ⟨0, 0, 0, ByteArray.empty, Sl.nil, mrow (On.blk.1 g).2.2, (MSame_spec (m := zeroM) (m' := zeroM) (by omega) zin zin (by show 0 ≤ _; omega) (fun q hq => ⟨_, .refl _, hq.2 rfl⟩)).2⟩⟩
theorem MsgPuts_wp (hF : 70000 ≤ F) {x y : Int} (hx : 0 ≤ x ∧ x ≤ 65535) (hy : 0 ≤ y ∧ y ≤ 255) (h : MIn H m l) (hg : H.has (0, 0) (rtv 31)) : ladinglaw18_MsgPuts.wp F m.kind m.ver m.i m.text l x y H (fun b _ => b = true) := by
  refine fun b8 hb8 => ?_
  obtain ⟨HH, e⟩ : ∃ HH, HH = H.upd b8 (mcell m l) := ⟨_, rfl⟩
  have g8 : HH b8 = some (mcell m l) := by rw [e, SH.upd_same]
  have hle : SH.le H HH := by rw [e]; exact le_upd hb8
  have hin := h.le hle
  have hgg := hg.le hle
  show ladinglaw18_awake.wp F (H.upd b8 (mcell m l)) _
  rw [← e]
  refine awake18_spec hF (br_t rfl ⟨m.kind, m.ver, m.i, m.text, l, mrow g8, Great_spec (by omega) hin (br_t rfl ⟨HH, .refl _, rfl⟩) fun hp => br_f (by simp) ⟨m.kind, m.ver, m.i, m.text, l, mrow g8, parts18_spec (refMay_spec (by omega) hin (by omega) ⟨m.kind, m.ver, m.i, m.text, l, mrow g8, ?_⟩)⟩⟩)
  cases hm : m.may with
  | false =>
    refine MPut_bad (by omega) (by omega) hin hm ⟨m.kind, m.ver, m.i, m.text, l, mrow g8, Check_spec (by omega) (by omega) hin ?_⟩
    rw [hm]
    refine o_some (br_f (by simp) (br_f (by simp) (CodeS hgg (br_f (show ¬ codeV (some (.no 4)) ≠ 4 from fun h => h rfl) (br_f (by simp) (br_t rfl (CodeS hgg ⟨_, .refl _, rfl⟩)))))))
  | true =>
    refine MPut_spec hF hin hm ⟨m.kind, m.ver, m.i, m.text, l, mrow g8, Check_spec (by omega) (by omega) hin ?_⟩
    rw [hm]
    exact o_none (br_f (by simp) (br_t rfl (Puts_j hF hx hy g8 hin hm)))
end
set_option maxRecDepth 100000 in
open Go.RowKit Go.ChangeShapes Go.WideShapes Go.ChangeAt in
theorem MsgPuts_walk {X : Prop} {H : Type} {enc : TypeId × Value → H} (W : World) (args : Array Value) (ds : List (DataW H)) (p : List MemPlace) (base : Nat)
    (hval : ∀ (j : Nat) t v, Tryd.f6.params[j]? = some t → args[j]? = some v → Value.okWide Tryd.prog W .any base t v) (hA : DataW.TrodAll enc Tryd.prog W 0 (fun _ => true) true Tryd.f6.params.toList args.toList ds p) (hfz : X)
    (hg : W.cell? ⟨0, 0, none⟩ = some (rtv 31)) :
    (∃ d d2 d3, ds = [d, d2, d3]) ∧ Calls Tryd.prog 6 args W fun e w' => e = .returned (.bool true) ∧ RowKit.Below W.heap.size W w' := by
  rw [Tryd.params6] at hA hval
  obtain ⟨v0, vs0, d0, ds0, p0, q0, hargs, rfl, rfl, h0, r0⟩ := trodAll_cons hA
  obtain ⟨v1, vs1, d1, ds1, p1, q1, rfl, rfl, rfl, h1, r1⟩ := trodAll_cons r0
  obtain ⟨v2, vs2, d2, ds2, p2, q2, rfl, rfl, rfl, h2, r2⟩ := trodAll_cons r1
  obtain ⟨rfl, rfl, rfl⟩ := trodAll_nil r2
  obtain rfl : args = #[v0, v1, v2] := by cases args; simp_all
  obtain ⟨m, l, rfl, hm⟩ := arg_msg (hval 0 53 v0 rfl rfl) h0
  obtain ⟨x, rfl, rfl, rfl, hx⟩ := open_int Tryd.underlying48 (hval 1 48 v1 rfl rfl) h1
  obtain ⟨y, rfl, rfl, rfl, hy⟩ := open_int Tryd.underlying5 (hval 2 5 v2 rfl rfl) h2
  have hxr : 0 ≤ x ∧ x ≤ 65535 := lit_range hx
  have hyr : 0 ≤ y ∧ y ≤ 255 := lit_range hy
  refine ⟨⟨_, _, _, rfl⟩, ?_⟩
  have h := ladinglaw18_MsgPuts.sound 70000 m.kind m.ver m.i m.text l x y (SH.of W) _ (MsgPuts_wp (by omega) hxr hyr hm (SH.of_cell (p := (0, 0)) hg)) W (SH.of_sat W)
  refine h.mono ?_
  rintro e w' ⟨v, H', rfl, st, q, rfl, rfl⟩
  exact ⟨rfl, st.below fun b o hb => SH.of_ro hb⟩
end Go.Proofs.YtkfbmoekghbgbaaDoor.K
