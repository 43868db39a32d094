/- api.Code and api.Place: printed by asgen.py. -/
import Derived.Test.YtkfbmoekghbgbaaDoorApi1
set_option linter.unusedVariables false
set_option linter.unusedSimpArgs false
set_option maxRecDepth 100000
namespace Go.Proofs.YtkfbmoekghbgbaaDoor.K
open Go
def codeE : EV → Int
  | .no c => c
  | .fault0 _ => -1
  | .fault _ e => codeE e
def codeV : Option EV → Int
  | none => 0
  | some e => codeE e
def placeV : Option EV → Int
  | none => -1
  | some (.no _) => -1
  | some (.fault0 p) => p
  | some (.fault p _) => p
theorem findE_code : ∀ (e : EV), (∃ c, findE e = some [.int .i64 c] ∧ codeE e = c) ∨ (findE e = none ∧ codeE e = -1)
  | .no c => .inl ⟨c, rfl, rfl⟩
  | .fault0 _ => .inr ⟨rfl, rfl⟩
  | .fault _ e => findE_code e
def api_Code.wp (F : Nat) (e : Option EV) (H : SH) (K : Int → SH → Prop) : Prop := H.has (0, 0) (rtv 31) ∧ K (codeV e) H
def api_Place.wp (F : Nat) (e : Option EV) (H : SH) (K : Int → SH → Prop) : Prop := H.has (0, 0) (rtv 31) ∧ K (placeV e) H
attribute [local irreducible] SW SOps SQ SCalls retQ

theorem api_Code.sound (F : Nat) (e : Option EV) (H : SH) (K : Int → SH → Prop) (h : api_Code.wp F e H K) : SCalls Tryd.prog 9 #[errV e] H (fun v H' => ∃ (x : Int), v = .int .i64 x ∧ K x H') := by
  obtain ⟨hg, h⟩ := h
  refine SCalls.body Tryd.func9 rfl (Nat.le_of_ble_eq_true rfl) ?_
  rcases e with _ | e
  · refine SW.seq ?_
    refine SW.region ?_
    refine SOps.val (v := .int .i64 0) rfl (wantN rfl) (fun _ => by kernel_rfl) ?_
    refine SOps.nil ?_
    refine SW.seq ?_
    refine SW.seq ?_
    refine SW.region ?_
    refine SOps.val (v := errV none) rfl (wantN rfl) (fun _ => by kernel_rfl) ?_
    refine SOps.val (v := .bool true) rfl (wantN rfl) (fun w => ev_errEq (e := none) rfl Tryd.underlying31 rfl rfl w) ?_
    refine SOps.nil ?_
    refine SW.cond_t (t := true) rfl rfl ?_
    refine SW.seq ?_
    refine SW.region ?_
    refine SOps.val (v := .int .i64 0) rfl (wantN rfl) (fun _ => by kernel_rfl) ?_
    refine SOps.nil ?_
    exact SW.ret (retQ.mk (.int .i64 0) (res1 rfl rfl) (.refl H) ⟨0, rfl, h⟩)
  · rcases findE_code e with ⟨c, hf, hcode⟩ | ⟨hf, hcode⟩
    · refine SW.seq ?_
      refine SW.region ?_
      refine SOps.val (v := .int .i64 0) rfl (wantN rfl) (fun _ => by kernel_rfl) ?_
      refine SOps.nil ?_
      refine SW.seq ?_
      refine SW.seq ?_
      refine SW.region ?_
      refine SOps.val (v := errV (some e)) rfl (wantN rfl) (fun _ => by kernel_rfl) ?_
      refine SOps.val (v := .bool false) rfl (wantN rfl) (fun w => ev_errEq (e := (some e)) rfl Tryd.underlying31 rfl rfl w) ?_
      refine SOps.nil ?_
      refine SW.cond_f (t := false) rfl rfl ?_
      refine SW.skip ?_
      refine SW.seq ?_
      refine SW.region ?_
      refine SOps.alloc rfl rfl (wantN rfl) (z := .int .i64 0) (by kernel_rfl) (fun b hb => ?_)
      let HH := H.upd b ⟨[.int .i64 0], 70, false, 1⟩
      refine SOps.nil ?_
      refine SW.seq ?_
      refine SW.seq ?_
      refine SW.region ?_
      refine SOps.val (v := errV (some e)) rfl (wantN rfl) (fun _ => by kernel_rfl) ?_
      refine SOps.val (v := .iface 72 (pv (some (b, 0)))) rfl (wantN rfl) (fun _ => by kernel_rfl) ?_
      refine SOps.enter rfl (wantN rfl) (fun _ => by kernel_rfl) (AsE_sound (a := (b, 0)) (H := HH) (R := fun v H' => v = .bool true ∧ H' = SH.setl HH (b, 0) [.int .i64 c]) (hg.le (le_upd hb)) (wrs_upd rfl (Nat.le_of_ble_eq_true rfl)) (fun cs' h1 => (by rw [hf] at h1; cases h1; exact ⟨rfl, rfl⟩)) (fun h1 => (by rw [hf] at h1; cases h1))) ?_
      rintro v H' ⟨q, rfl, e1, rfl⟩
      cases e1
      refine SOps.nil ?_
      refine SW.cond_t (t := true) rfl rfl ?_
      refine SW.seq ?_
      refine SW.region ?_
      refine SOps.rd (v := .int .i64 c) rfl (wantN rfl) (fun w hw => ev_load1 rfl (fun _ => by kernel_rfl) (p := (b, 0)) rfl (by show SH.has (SH.setl HH (b, 0) [.int .i64 c]) _ _; rw [show SH.setl HH (b, 0) [.int .i64 c] = H.upd b _ from setl_upd]; exact has_upd rfl) w hw) ?_
      refine SOps.val (v := .int .i64 c) rfl (wantN rfl) (fun _ => by kernel_rfl) ?_
      refine SOps.nil ?_
      have hle : SH.le H (SH.setl HH (b, 0) [.int .i64 c]) := by rw [show SH.setl HH (b, 0) [.int .i64 c] = H.upd b _ from setl_upd]; exact le_upd hb
      exact SW.ret (retQ.mk (.int .i64 c) (res1 rfl rfl) hle ⟨c, rfl, hcode ▸ h⟩)
    · refine SW.seq ?_
      refine SW.region ?_
      refine SOps.val (v := .int .i64 0) rfl (wantN rfl) (fun _ => by kernel_rfl) ?_
      refine SOps.nil ?_
      refine SW.seq ?_
      refine SW.seq ?_
      refine SW.region ?_
      refine SOps.val (v := errV (some e)) rfl (wantN rfl) (fun _ => by kernel_rfl) ?_
      refine SOps.val (v := .bool false) rfl (wantN rfl) (fun w => ev_errEq (e := (some e)) rfl Tryd.underlying31 rfl rfl w) ?_
      refine SOps.nil ?_
      refine SW.cond_f (t := false) rfl rfl ?_
      refine SW.skip ?_
      refine SW.seq ?_
      refine SW.region ?_
      refine SOps.alloc rfl rfl (wantN rfl) (z := .int .i64 0) (by kernel_rfl) (fun b hb => ?_)
      let HH := H.upd b ⟨[.int .i64 0], 70, false, 1⟩
      refine SOps.nil ?_
      refine SW.seq ?_
      refine SW.seq ?_
      refine SW.region ?_
      refine SOps.val (v := errV (some e)) rfl (wantN rfl) (fun _ => by kernel_rfl) ?_
      refine SOps.val (v := .iface 72 (pv (some (b, 0)))) rfl (wantN rfl) (fun _ => by kernel_rfl) ?_
      refine SOps.enter rfl (wantN rfl) (fun _ => by kernel_rfl) (AsE_sound (a := (b, 0)) (H := HH) (R := fun v H' => v = .bool false ∧ H' = HH) (hg.le (le_upd hb)) (wrs_upd rfl (Nat.le_of_ble_eq_true rfl)) (fun cs' h1 => (by rw [hf] at h1; cases h1)) (fun _ => ⟨rfl, rfl⟩)) ?_
      rintro v H' ⟨q, rfl, e1, rfl⟩
      cases e1
      refine SOps.nil ?_
      refine SW.cond_f (t := false) rfl rfl ?_
      refine SW.skip ?_
      refine SW.seq ?_
      refine SW.region ?_
      refine SOps.val (v := .int .i64 (-1)) rfl (wantN rfl) (fun _ => by kernel_rfl) ?_
      refine SOps.nil ?_
      exact SW.ret (retQ.mk (.int .i64 (-1)) (res1 rfl rfl) (le_upd hb) ⟨-1, rfl, hcode ▸ h⟩)
theorem api_Place.sound (F : Nat) (e : Option EV) (H : SH) (K : Int → SH → Prop) (h : api_Place.wp F e H K) : SCalls Tryd.prog 23 #[errV e] H (fun v H' => ∃ (x : Int), v = .int .i64 x ∧ K x H') := by
  obtain ⟨hg, h⟩ := h
  refine SCalls.body Tryd.func23 rfl (Nat.le_of_ble_eq_true rfl) ?_
  rcases e with _ | (c | p | ⟨p, e⟩)
  · refine SW.seq ?_
    refine SW.region ?_
    refine SOps.val (v := .int .i64 0) rfl (wantN rfl) (fun _ => by kernel_rfl) ?_
    refine SOps.nil ?_
    refine SW.seq ?_
    refine SW.region ?_
    refine SOps.alloc rfl rfl (wantN rfl) (z := .agg #[.int .i64 0, .nilIface]) (by kernel_rfl) (fun b hb => ?_)
    let HH := H.upd b ⟨[.int .i64 0, .nilIface], 91, false, 2⟩
    refine SOps.nil ?_
    refine SW.seq ?_
    refine SW.seq ?_
    refine SW.region ?_
    refine SOps.val (v := errV none) rfl (wantN rfl) (fun _ => by kernel_rfl) ?_
    refine SOps.val (v := .bool false) rfl (wantN rfl) (fun w => ev_errNe (e := none) rfl Tryd.underlying31 rfl rfl w) ?_
    refine SOps.val (v := .bool false) rfl (wantN rfl) (fun _ => by kernel_rfl) ?_
    refine SOps.off rfl (wantX (c := false) rfl rfl rfl rfl) ?_
    refine SOps.off rfl (wantX (c := false) rfl rfl rfl rfl) ?_
    refine SOps.off rfl (wantX (c := false) rfl rfl rfl rfl) ?_
    refine SOps.val (v := .bool false) rfl (wantN rfl) (fun _ => by kernel_rfl) ?_
    refine SOps.nil ?_
    refine SW.cond_f (t := false) rfl rfl ?_
    refine SW.skip ?_
    refine SW.seq ?_
    refine SW.region ?_
    refine SOps.val (v := .int .i64 (-1)) rfl (wantN rfl) (fun _ => by kernel_rfl) ?_
    refine SOps.nil ?_
    exact SW.ret (retQ.mk (.int .i64 (-1)) (res1 rfl rfl) (le_upd hb) ⟨-1, rfl, h⟩)
  · refine SW.seq ?_
    have hf : findF (EV.no c) = none := rfl
    refine SW.region ?_
    refine SOps.val (v := .int .i64 0) rfl (wantN rfl) (fun _ => by kernel_rfl) ?_
    refine SOps.nil ?_
    refine SW.seq ?_
    refine SW.region ?_
    refine SOps.alloc rfl rfl (wantN rfl) (z := .agg #[.int .i64 0, .nilIface]) (by kernel_rfl) (fun b hb => ?_)
    let HH := H.upd b ⟨[.int .i64 0, .nilIface], 91, false, 2⟩
    refine SOps.nil ?_
    refine SW.seq ?_
    refine SW.seq ?_
    refine SW.region ?_
    refine SOps.val (v := errV (some (EV.no c))) rfl (wantN rfl) (fun _ => by kernel_rfl) ?_
    refine SOps.val (v := .bool true) rfl (wantN rfl) (fun w => ev_errNe (e := (some (EV.no c))) rfl Tryd.underlying31 rfl rfl w) ?_
    refine SOps.val (v := .bool true) rfl (wantN rfl) (fun _ => by kernel_rfl) ?_
    refine SOps.val (v := errV (some (EV.no c))) rfl (wantY (c := true) rfl rfl rfl rfl) (fun _ => by kernel_rfl) ?_
    refine SOps.val (v := .iface 92 (pv (some (b, 0)))) rfl (wantY (c := true) rfl rfl rfl rfl) (fun _ => by kernel_rfl) ?_
    refine SOps.enter rfl (wantY (c := true) rfl rfl rfl rfl) (fun _ => by kernel_rfl) (AsF_sound (a := (b, 0)) (H := HH) (R := fun v H' => v = .bool false ∧ H' = HH) (hg.le (le_upd hb)) (wrs_upd rfl (Nat.le_of_ble_eq_true rfl)) (fun cs' h1 => (by rw [hf] at h1; cases h1)) (fun _ => ⟨rfl, rfl⟩)) ?_
    rintro v H' ⟨q, rfl, e1, rfl⟩
    cases e1
    refine SOps.val (v := .bool false) rfl (wantN rfl) (fun _ => by kernel_rfl) ?_
    refine SOps.nil ?_
    refine SW.cond_f (t := false) rfl rfl ?_
    refine SW.skip ?_
    refine SW.seq ?_
    refine SW.region ?_
    refine SOps.val (v := .int .i64 (-1)) rfl (wantN rfl) (fun _ => by kernel_rfl) ?_
    refine SOps.nil ?_
    exact SW.ret (retQ.mk (.int .i64 (-1)) (res1 rfl rfl) (le_upd hb) ⟨-1, rfl, h⟩)
  · refine SW.seq ?_
    have hf : findF (EV.fault0 p) = some [.int .i64 p, .nilIface] := rfl
    refine SW.region ?_
    refine SOps.val (v := .int .i64 0) rfl (wantN rfl) (fun _ => by kernel_rfl) ?_
    refine SOps.nil ?_
    refine SW.seq ?_
    refine SW.region ?_
    refine SOps.alloc rfl rfl (wantN rfl) (z := .agg #[.int .i64 0, .nilIface]) (by kernel_rfl) (fun b hb => ?_)
    let HH := H.upd b ⟨[.int .i64 0, .nilIface], 91, false, 2⟩
    refine SOps.nil ?_
    refine SW.seq ?_
    refine SW.seq ?_
    refine SW.region ?_
    refine SOps.val (v := errV (some (EV.fault0 p))) rfl (wantN rfl) (fun _ => by kernel_rfl) ?_
    refine SOps.val (v := .bool true) rfl (wantN rfl) (fun w => ev_errNe (e := (some (EV.fault0 p))) rfl Tryd.underlying31 rfl rfl w) ?_
    refine SOps.val (v := .bool true) rfl (wantN rfl) (fun _ => by kernel_rfl) ?_
    refine SOps.val (v := errV (some (EV.fault0 p))) rfl (wantY (c := true) rfl rfl rfl rfl) (fun _ => by kernel_rfl) ?_
    refine SOps.val (v := .iface 92 (pv (some (b, 0)))) rfl (wantY (c := true) rfl rfl rfl rfl) (fun _ => by kernel_rfl) ?_
    refine SOps.enter rfl (wantY (c := true) rfl rfl rfl rfl) (fun _ => by kernel_rfl) (AsF_sound (a := (b, 0)) (H := HH) (R := fun v H' => v = .bool true ∧ H' = SH.setl HH (b, 0) [.int .i64 p, .nilIface]) (hg.le (le_upd hb)) (wrs_upd rfl (Nat.le_of_ble_eq_true rfl)) (fun cs' h1 => (by rw [hf] at h1; cases h1; exact ⟨rfl, rfl⟩)) (fun h1 => (by rw [hf] at h1; cases h1))) ?_
    rintro v H' ⟨q, rfl, e1, rfl⟩
    cases e1
    refine SOps.val (v := .bool true) rfl (wantN rfl) (fun _ => by kernel_rfl) ?_
    refine SOps.nil ?_
    refine SW.cond_t (t := true) rfl rfl ?_
    refine SW.seq ?_
    refine SW.region ?_
    refine SOps.val (v := pv (some (b, 0))) rfl (wantN rfl) (fun _ => by kernel_rfl) ?_
    refine SOps.rd (v := .int .i64 p) rfl (wantN rfl) (fun w hw => ev_load1 rfl (fun _ => by kernel_rfl) (p := (b, 0)) rfl (by show SH.has (SH.setl HH (b, 0) [.int .i64 p, .nilIface]) _ _; rw [show SH.setl HH (b, 0) [.int .i64 p, .nilIface] = H.upd b _ from setl_upd]; exact has_upd rfl) w hw) ?_
    refine SOps.val (v := .int .i64 p) rfl (wantN rfl) (fun _ => by kernel_rfl) ?_
    refine SOps.nil ?_
    have hle : SH.le H (SH.setl HH (b, 0) [.int .i64 p, .nilIface]) := by rw [show SH.setl HH (b, 0) [.int .i64 p, .nilIface] = H.upd b _ from setl_upd]; exact le_upd hb
    exact SW.ret (retQ.mk (.int .i64 p) (res1 rfl rfl) hle ⟨p, rfl, h⟩)
  · refine SW.seq ?_
    have hf : findF (EV.fault p e) = some [.int .i64 p, errV (some e)] := rfl
    refine SW.region ?_
    refine SOps.val (v := .int .i64 0) rfl (wantN rfl) (fun _ => by kernel_rfl) ?_
    refine SOps.nil ?_
    refine SW.seq ?_
    refine SW.region ?_
    refine SOps.alloc rfl rfl (wantN rfl) (z := .agg #[.int .i64 0, .nilIface]) (by kernel_rfl) (fun b hb => ?_)
    let HH := H.upd b ⟨[.int .i64 0, .nilIface], 91, false, 2⟩
    refine SOps.nil ?_
    refine SW.seq ?_
    refine SW.seq ?_
    refine SW.region ?_
    refine SOps.val (v := errV (some (EV.fault p e))) rfl (wantN rfl) (fun _ => by kernel_rfl) ?_
    refine SOps.val (v := .bool true) rfl (wantN rfl) (fun w => ev_errNe (e := (some (EV.fault p e))) rfl Tryd.underlying31 rfl rfl w) ?_
    refine SOps.val (v := .bool true) rfl (wantN rfl) (fun _ => by kernel_rfl) ?_
    refine SOps.val (v := errV (some (EV.fault p e))) rfl (wantY (c := true) rfl rfl rfl rfl) (fun _ => by kernel_rfl) ?_
    refine SOps.val (v := .iface 92 (pv (some (b, 0)))) rfl (wantY (c := true) rfl rfl rfl rfl) (fun _ => by kernel_rfl) ?_
    refine SOps.enter rfl (wantY (c := true) rfl rfl rfl rfl) (fun _ => by kernel_rfl) (AsF_sound (a := (b, 0)) (H := HH) (R := fun v H' => v = .bool true ∧ H' = SH.setl HH (b, 0) [.int .i64 p, errV (some e)]) (hg.le (le_upd hb)) (wrs_upd rfl (Nat.le_of_ble_eq_true rfl)) (fun cs' h1 => (by rw [hf] at h1; cases h1; exact ⟨rfl, rfl⟩)) (fun h1 => (by rw [hf] at h1; cases h1))) ?_
    rintro v H' ⟨q, rfl, e1, rfl⟩
    cases e1
    refine SOps.val (v := .bool true) rfl (wantN rfl) (fun _ => by kernel_rfl) ?_
    refine SOps.nil ?_
    refine SW.cond_t (t := true) rfl rfl ?_
    refine SW.seq ?_
    refine SW.region ?_
    refine SOps.val (v := pv (some (b, 0))) rfl (wantN rfl) (fun _ => by kernel_rfl) ?_
    refine SOps.rd (v := .int .i64 p) rfl (wantN rfl) (fun w hw => ev_load1 rfl (fun _ => by kernel_rfl) (p := (b, 0)) rfl (by show SH.has (SH.setl HH (b, 0) [.int .i64 p, errV (some e)]) _ _; rw [show SH.setl HH (b, 0) [.int .i64 p, errV (some e)] = H.upd b _ from setl_upd]; exact has_upd rfl) w hw) ?_
    refine SOps.val (v := .int .i64 p) rfl (wantN rfl) (fun _ => by kernel_rfl) ?_
    refine SOps.nil ?_
    have hle : SH.le H (SH.setl HH (b, 0) [.int .i64 p, errV (some e)]) := by rw [show SH.setl HH (b, 0) [.int .i64 p, errV (some e)] = H.upd b _ from setl_upd]; exact le_upd hb
    exact SW.ret (retQ.mk (.int .i64 p) (res1 rfl rfl) hle ⟨p, rfl, h⟩)
end Go.Proofs.YtkfbmoekghbgbaaDoor.K
