/- The law MsgGets: what it comes to. -/
import Derived.Test.YtkfbmoekghbgbaaDoorLawMsg2
import Derived.Test.YtkfbmoekghbgbaaDoorGladinglaw18MsgGets
set_option linter.unusedVariables false
set_option linter.unusedSimpArgs false
namespace Go.Proofs.YtkfbmoekghbgbaaDoor.K
open Go
section
variable {F : Nat} {H : SH} {m : MM} {l : Sl}
theorem MsgGets_wp (hF : 70000 ≤ F) {s : ByteArray} (hg : H.has (0, 0) (rtv 31)) : ladinglaw18_MsgGets.wp F s H (fun b _ => b = true) := by
  refine awake18_spec hF (br_t rfl ⟨fun _ => ⟨H, .refl _, rfl⟩, fun c => Get_spec hF (by omega) (by omega) ?_⟩)
  cases hp : getP (bs s) with
  | error e =>
    obtain ⟨p, c, rfl, hc⟩ := getP_err hp
    intro b hb
    have hle := got_le (o := mcell zeroM Sl.nil) (vs := [.int .i64 0, .int .i64 0, .int .i64 0, .string ByteArray.empty, sv Sl.nil]) hb
    have g := got_on (m' := zeroM) (l' := Sl.nil) hb
    refine ⟨zero_wrs, o_some (CodeS (hg.le hle) ⟨0, 0, 0, ByteArray.empty, Sl.nil, mrow (On.blk.1 g).2.2, (MSame_spec (m := zeroM) (m' := zeroM) (by omega) zin zin (by show 0 ≤ _; omega) (fun q hq => ?_)).2⟩)⟩
    obtain rfl : q = true := hq.2 rfl
    have hcode : codeV (some (EV.mk (p : Int) (some (.no c)))) = c := rfl
    rw [hcode]
    have pl : ∀ {G : SH}, G.has (0, 0) (rtv 31) → api_Place.wp F (some (EV.mk (p : Int) (some (.no c)))) G (fun x58 H59 => ∃ Hr, SH.le Hr H59 ∧ (decide (x58 ≥ 0)) = true) := fun hG => PlaceS hG ⟨_, .refl _, decide_eq_true (show (p : Int) ≥ 0 by omega)⟩
    have hgl := hg.le hle
    refine br_t rfl ⟨fun _ => pl hgl, fun n4 => ⟨fun _ => pl hgl, fun n3 => ⟨fun _ => pl hgl, fun n5 => ⟨fun _ => pl hgl, fun n6 => absurd hc (by omega)⟩⟩⟩⟩
  | ok m =>
    obtain ⟨hm, hs⟩ := getP_ok hp
    intro l Hr o b hb
    have g := got_on (m' := m) (l' := l) hb
    have h20 := (may_bounds hm).2.2.2.2.2.1
    have hin : MIn _ m l := MIn.le ⟨by have := o.len; rw [strc_len] at this; omega, o.row⟩ g.le
    refine ⟨zero_wrs, o_none ⟨m.kind, m.ver, m.i, m.text, l, mrow (On.blk.1 g).2.2, parts18_spec (refMay_spec (by omega) hin (by omega) ?_)⟩⟩
    rw [hm]
    refine br_t rfl ⟨m.kind, m.ver, m.i, m.text, l, mrow (On.blk.1 g).2.2, parts18_spec (refPut_spec hF hin hm ⟨_, .refl _, ?_⟩)⟩
    rw [decide_eq_true]
    rw [← hs, ofL_bs]
end
set_option maxRecDepth 100000 in
open Go.RowKit Go.ChangeShapes Go.WideShapes Go.ChangeAt in
theorem MsgGets_walk {X : Prop} {H : Type} {enc : TypeId × Value → H} (W : World) (args : Array Value) (ds : List (DataW H)) (p : List MemPlace) (base : Nat)
    (hval : ∀ (j : Nat) t v, Tryd.f5.params[j]? = some t → args[j]? = some v → Value.okWide Tryd.prog W .any base t v) (hA : DataW.TrodAll enc Tryd.prog W 0 (fun _ => true) true Tryd.f5.params.toList args.toList ds p) (hfz : X)
    (hg : W.cell? ⟨0, 0, none⟩ = some (rtv 31)) :
    (∃ d, ds = [d]) ∧ Calls Tryd.prog 5 args W fun e w' => e = .returned (.bool true) ∧ RowKit.Below W.heap.size W w' := by
  rw [Tryd.params5] at hA hval
  obtain ⟨v0, vs0, d0, ds0, p0, q0, hargs, rfl, rfl, h0, r0⟩ := trodAll_cons hA
  obtain ⟨rfl, rfl, rfl⟩ := trodAll_nil r0
  obtain rfl : args = #[v0] := by cases args; simp_all
  obtain ⟨s, rfl, rfl, rfl, hs⟩ := Go.ChangeMaps.open_string Tryd.underlying9 (hval 0 9 v0 rfl rfl) h0
  refine ⟨⟨_, rfl⟩, ?_⟩
  have h := ladinglaw18_MsgGets.sound 70000 s (SH.of W) _ (MsgGets_wp (by omega) (SH.of_cell (p := (0, 0)) hg)) W (SH.of_sat W)
  refine h.mono ?_
  rintro e w' ⟨v, H', rfl, st, q, rfl, rfl⟩
  exact ⟨rfl, st.below fun b o hb => SH.of_ro hb⟩
end Go.Proofs.YtkfbmoekghbgbaaDoor.K
