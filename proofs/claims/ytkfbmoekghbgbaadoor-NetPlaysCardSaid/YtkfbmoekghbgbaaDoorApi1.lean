/- errors.As and errors.as at the targets of package api: printed by asgen.py along their one road. -/
import Derived.Test.YtkfbmoekghbgbaaDoorApi0
import Derived.Test.YtkfbmoekghbgbaaDoorLib2
import Derived.Test.YtkfbmoekghbgbaaDoorGapi0
set_option linter.unusedVariables false
set_option linter.unusedSimpArgs false
set_option maxRecDepth 100000
namespace Go.Proofs.YtkfbmoekghbgbaaDoor.K
open Go

theorem Unwrap_spec {F : Nat} {x : Int} {e : Option EV} {H : SH} {K : Option EV → SH → Prop} (h : K e H) : api_Fault_Unwrap.wp F x e H K := by
  intro b hb
  exact ⟨e, has_upd rfl, H, le_upd hb, h⟩
theorem le_setl {H H1 : SH} {a : Nat × Nat} {cs : List Value} {b7 : Nat} {o : AO} {n : Nat} (hle : SH.le H H1) (hb : H1 b7 = none) (hw : H.wrs a n) : SH.le (SH.setl H a cs) (SH.setl (H1.upd b7 o) a cs) := by
  obtain ⟨x, h1, h2⟩ := hw
  have hne : a.1 ≠ b7 := by rintro rfl; rw [hle _ _ h1] at hb; cases hb
  have e1 : SH.setl H a cs = H.upd a.1 { x with cells := wrl x.cells a.2 cs } := by unfold SH.setl; rw [h1]
  have e2 : SH.setl (H1.upd b7 o) a cs = (H1.upd b7 o).upd a.1 { x with cells := wrl x.cells a.2 cs } := by unfold SH.setl; rw [SH.upd_ne _ _ hne, hle _ _ h1]
  rw [e1, e2]
  intro c oc hc
  by_cases hca : c = a.1
  · subst hca; rw [SH.upd_same] at hc ⊢; exact hc
  · rw [SH.upd_ne _ _ hca] at hc ⊢
    have hcb : c ≠ b7 := by rintro rfl; rw [hle _ _ hc] at hb; cases hb
    rw [SH.upd_ne _ _ hcb]; exact hle _ _ hc
theorem le_setl2 {H : SH} {a : Nat × Nat} {cs : List Value} {c b5 : Nat} {o o' : AO} {n : Nat} (hc : H c = none) (hb : (H.upd c o) b5 = none) (hw : H.wrs a n) : SH.le (SH.setl H a cs) (SH.setl ((H.upd c o).upd b5 o') a cs) :=
  le_setl (le_upd hc) hb hw
theorem wrs_up {H : SH} {a : Nat × Nat} {c b5 : Nat} {o o' : AO} {n : Nat} (hw : H.wrs a n) (hc : H c = none) (hb : (H.upd c o) b5 = none) : ((H.upd c o).upd b5 o').wrs a n := by
  obtain ⟨x, h1, h2⟩ := hw
  have h3 := (le_upd (o := o) hc) _ _ h1
  exact ⟨x, (le_upd (o := o') hb) _ _ h3, h2⟩
attribute [local irreducible] SW SOps SQ SCalls retQ

theorem asE_sound {e0 : EV} {H : SH} {a : Nat × Nat} {c : Nat} {R : Value → SH → Prop} (hc : H.has (c, 0) (pv (some a))) (hw : H.wrs a 1) (hy : ∀ cs, findE e0 = some cs → R (.bool true) (SH.setl H a cs)) (hn : findE e0 = none → R (.bool false) H) :
    SCalls Tryd.prog 58 #[errV (some e0), .iface 72 (pv (some a)), rvv 72 (c, 0) 150, rtv 70] H (fun v H' => ∃ q, v = .bool q ∧ R (.bool q) H') := by
  refine SCalls.body Tryd.func58 rfl (Nat.le_of_ble_eq_true rfl) ?_
  refine SW.seq ?_
  refine SW.region ?_
  refine SOps.box rfl rfl (wantN rfl) (v := rvv 72 (c, 0) 150) rfl (fun b6 hb6 => ?_)
  refine SOps.val (v := .bool false) rfl (wantN rfl) (fun _ => by kernel_rfl) ?_
  refine SOps.nil ?_
  refine SW.block ?_
  refine SW.loop (fun k fr H' => ∃ (g : Fr) (e : EV), fr = g.upds [(0, errV (some e)), (1, .iface 72 (pv (some a))), (3, rtv 70), (6, pv (some (b6, 0)))] ∧ H' = (SH.upd H b6 ⟨[.pointer (some ⟨1, 72, none⟩), pv (some (c, 0)), .int .u64 150], 100, false, 3⟩) ∧ e.depth < k ∧ findE e = findE e0) (e0.depth + 1) ⟨_, e0, Fr.upds_self _ _ ⟨rfl, rfl, rfl, rfl, trivial⟩, rfl, Nat.lt_succ_self _, rfl⟩ ?_
  rintro k fr H' ⟨g, e, rfl, rfl, hk, hf⟩
  have hV : (SH.upd H b6 ⟨[.pointer (some ⟨1, 72, none⟩), pv (some (c, 0)), .int .u64 150], 100, false, 3⟩).row (some (b6, 0)) [.pointer (some ⟨1, 72, none⟩), pv (some (c, 0)), .int .u64 150] := row_upd rfl
  have hne : c ≠ b6 := by rintro rfl; obtain ⟨o, h1, _⟩ := hc; rw [hb6] at h1; cases h1
  have hne2 : a.1 ≠ b6 := by intro h1; obtain ⟨o, h2, _⟩ := hw; rw [h1, hb6] at h2; cases h2
  have hc' := has_upd_ne (o := (⟨[.pointer (some ⟨1, 72, none⟩), pv (some (c, 0)), .int .u64 150], 100, false, 3⟩ : AO)) hne hc
  have hw' := wrs_upd_ne (k := a.2) (o := (⟨[.pointer (some ⟨1, 72, none⟩), pv (some (c, 0)), .int .u64 150], 100, false, 3⟩ : AO)) hne2 hw
  have hle := le_upd (o := (⟨[.pointer (some ⟨1, 72, none⟩), pv (some (c, 0)), .int .u64 150], 100, false, 3⟩ : AO)) hb6
  rcases e with x | x | ⟨x, e⟩
  · refine SW.block ?_
    refine SW.seq ?_
    refine SW.seq ?_
    refine SW.region ?_
    refine SOps.val (v := errV (some (EV.no x))) rfl (wantN rfl) (fun _ => by kernel_rfl) ?_
    refine SOps.val (v := rtv 70) rfl (wantN rfl) (fun _ => by kernel_rfl) ?_
    refine SOps.val (v := rtv 70) rfl (wantN rfl) (fun _ => by kernel_rfl) ?_
    refine SOps.val (v := .bool true) rfl (wantN rfl) (fun _ => by kernel_rfl) ?_
    refine SOps.nil ?_
    refine SW.cond_t (t := true) rfl rfl ?_
    refine SW.seq ?_
    refine SW.region ?_
    refine SOps.rd (v := rvv 72 (c, 0) 150) rfl (wantN rfl) (fun w hw => ev_loadN rfl (fun _ => by kernel_rfl) (size := 3) (by kernel_rfl) (p := (b6, 0)) (cs := [.pointer (some ⟨1, 72, none⟩), pv (some (c, 0)), .int .u64 150]) rfl rfl hV w hw) ?_
    refine SOps.rd (v := rvv 70 a 386) rfl (wantN rfl) (fun w hw => xElemE hc' hw rfl rfl) ?_
    refine SOps.val (v := errV (some (EV.no x))) rfl (wantN rfl) (fun _ => by kernel_rfl) ?_
    refine SOps.xalloc (mk := fun b => rvv 70 (b, 0) 130) (cs := #[.int .i64 x]) (t := 70) rfl (wantN rfl) (fun w => by kernel_rfl) (fun b7 hb7 => ?_)
    refine xSetE (cs := [.int .i64 x]) (a := a) (b := b7) rfl rfl rfl (wantN rfl) hw' hb7 rfl rfl ?_
    refine SOps.nil ?_
    refine SW.seq ?_
    refine SW.region ?_
    refine SOps.val (v := .bool true) rfl (wantN rfl) (fun _ => by kernel_rfl) ?_
    refine SOps.nil ?_
    exact SW.ret (retQ.mk (.bool true) (res1 rfl rfl) (le_setl hle hb7 hw) ⟨true, rfl, hy _ hf.symm⟩)
  · refine SW.block ?_
    refine SW.seq ?_
    refine SW.seq ?_
    refine SW.region ?_
    refine SOps.val (v := errV (some (EV.fault0 x))) rfl (wantN rfl) (fun _ => by kernel_rfl) ?_
    refine SOps.val (v := rtv 91) rfl (wantN rfl) (fun _ => by kernel_rfl) ?_
    refine SOps.val (v := rtv 70) rfl (wantN rfl) (fun _ => by kernel_rfl) ?_
    refine SOps.val (v := .bool false) rfl (wantN rfl) (fun _ => by kernel_rfl) ?_
    refine SOps.nil ?_
    refine SW.cond_f (t := false) rfl rfl ?_
    refine SW.skip ?_
    refine SW.seq ?_
    refine SW.seq ?_
    refine SW.region ?_
    refine SOps.val (v := errV (some (EV.fault0 x))) rfl (wantN rfl) (fun _ => by kernel_rfl) ?_
    refine SOps.val (v := .tuple #[.nilIface, .bool false]) rfl (wantN rfl) (fun w => xassert (u := fun _ => .tuple #[.nilIface, .bool false]) rfl rfl xNoAsF w) ?_
    refine SOps.val (v := .tuple #[.nilIface, .bool false]) rfl (wantN rfl) (fun _ => by kernel_rfl) ?_
    refine SOps.val (v := .nilIface) rfl (wantN rfl) (fun _ => by kernel_rfl) ?_
    refine SOps.val (v := .bool false) rfl (wantN rfl) (fun _ => by kernel_rfl) ?_
    refine SOps.val (v := .nilIface) rfl (wantN rfl) (fun _ => by kernel_rfl) ?_
    refine SOps.val (v := .bool false) rfl (wantN rfl) (fun _ => by kernel_rfl) ?_
    refine SOps.nil ?_
    refine SW.seq ?_
    refine SW.region ?_
    refine SOps.val (v := .bool false) rfl (wantN rfl) (fun _ => by kernel_rfl) ?_
    refine SOps.val (v := .bool false) rfl (wantN rfl) (fun _ => by kernel_rfl) ?_
    refine SOps.off rfl (wantX (c := false) rfl rfl rfl rfl) ?_
    refine SOps.off rfl (wantX (c := false) rfl rfl rfl rfl) ?_
    refine SOps.off rfl (wantX (c := false) rfl rfl rfl rfl) ?_
    refine SOps.val (v := .bool false) rfl (wantN rfl) (fun _ => by kernel_rfl) ?_
    refine SOps.nil ?_
    refine SW.cond_f (t := false) rfl rfl ?_
    refine SW.skip ?_
    refine SW.seq ?_
    refine SW.region ?_
    refine SOps.val (v := errV (some (EV.fault0 x))) rfl (wantN rfl) (fun _ => by kernel_rfl) ?_
    refine SOps.nil ?_
    refine SW.block ?_
    refine SW.seq ?_
    refine SW.region ?_
    refine SOps.val (v := .tuple #[errV (some (EV.fault0 x)), .bool true]) rfl (wantN rfl) (fun w => xassert (u := fun v => .tuple #[.iface 91 v, .bool true]) rfl rfl xHasUnwF w) ?_
    refine SOps.val (v := .bool true) rfl (wantN rfl) (fun _ => by kernel_rfl) ?_
    refine SOps.val (v := errV (some (EV.fault0 x))) rfl (wantN rfl) (fun _ => by kernel_rfl) ?_
    refine SOps.nil ?_
    refine SW.cond_t (t := true) rfl rfl ?_
    refine SW.seq ?_
    refine SW.region ?_
    refine SOps.val (v := errV (some (EV.fault0 x))) rfl (wantN rfl) (fun _ => by kernel_rfl) ?_
    refine SOps.nil ?_
    refine SW.seq ?_
    refine SW.region ?_
    refine SOps.val (v := errV (some (EV.fault0 x))) rfl (wantN rfl) (fun _ => by kernel_rfl) ?_
    refine SOps.enter rfl (wantN rfl) (fun _ => by kernel_rfl) (api_Fault_Unwrap.sound 1 x none _ (fun e' H' => e' = none ∧ H' = (SH.upd H b6 ⟨[.pointer (some ⟨1, 72, none⟩), pv (some (c, 0)), .int .u64 150], 100, false, 3⟩)) (Unwrap_spec ⟨rfl, rfl⟩)) ?_
    rintro v H' ⟨e', rfl, rfl, rfl⟩
    refine SOps.val (v := errV none) rfl (wantN rfl) (fun _ => by kernel_rfl) ?_
    refine SOps.nil ?_
    refine SW.seq ?_
    refine SW.region ?_
    refine SOps.val (v := errV none) rfl (wantN rfl) (fun _ => by kernel_rfl) ?_
    refine SOps.val (v := .bool true) rfl (wantN rfl) (fun w => ev_errEq (e := none) rfl Tryd.underlying31 rfl rfl w) ?_
    refine SOps.nil ?_
    refine SW.cond_t (t := true) rfl rfl ?_
    refine SW.seq ?_
    refine SW.region ?_
    refine SOps.val (v := .bool false) rfl (wantN rfl) (fun _ => by kernel_rfl) ?_
    refine SOps.nil ?_
    exact SW.ret (retQ.mk (.bool false) (res1 rfl rfl) hle ⟨false, rfl, hn hf.symm⟩)
  · refine SW.block ?_
    refine SW.seq ?_
    refine SW.seq ?_
    refine SW.region ?_
    refine SOps.val (v := errV (some (EV.fault x e))) rfl (wantN rfl) (fun _ => by kernel_rfl) ?_
    refine SOps.val (v := rtv 91) rfl (wantN rfl) (fun _ => by kernel_rfl) ?_
    refine SOps.val (v := rtv 70) rfl (wantN rfl) (fun _ => by kernel_rfl) ?_
    refine SOps.val (v := .bool false) rfl (wantN rfl) (fun _ => by kernel_rfl) ?_
    refine SOps.nil ?_
    refine SW.cond_f (t := false) rfl rfl ?_
    refine SW.skip ?_
    refine SW.seq ?_
    refine SW.seq ?_
    refine SW.region ?_
    refine SOps.val (v := errV (some (EV.fault x e))) rfl (wantN rfl) (fun _ => by kernel_rfl) ?_
    refine SOps.val (v := .tuple #[.nilIface, .bool false]) rfl (wantN rfl) (fun w => xassert (u := fun _ => .tuple #[.nilIface, .bool false]) rfl rfl xNoAsF w) ?_
    refine SOps.val (v := .tuple #[.nilIface, .bool false]) rfl (wantN rfl) (fun _ => by kernel_rfl) ?_
    refine SOps.val (v := .nilIface) rfl (wantN rfl) (fun _ => by kernel_rfl) ?_
    refine SOps.val (v := .bool false) rfl (wantN rfl) (fun _ => by kernel_rfl) ?_
    refine SOps.val (v := .nilIface) rfl (wantN rfl) (fun _ => by kernel_rfl) ?_
    refine SOps.val (v := .bool false) rfl (wantN rfl) (fun _ => by kernel_rfl) ?_
    refine SOps.nil ?_
    refine SW.seq ?_
    refine SW.region ?_
    refine SOps.val (v := .bool false) rfl (wantN rfl) (fun _ => by kernel_rfl) ?_
    refine SOps.val (v := .bool false) rfl (wantN rfl) (fun _ => by kernel_rfl) ?_
    refine SOps.off rfl (wantX (c := false) rfl rfl rfl rfl) ?_
    refine SOps.off rfl (wantX (c := false) rfl rfl rfl rfl) ?_
    refine SOps.off rfl (wantX (c := false) rfl rfl rfl rfl) ?_
    refine SOps.val (v := .bool false) rfl (wantN rfl) (fun _ => by kernel_rfl) ?_
    refine SOps.nil ?_
    refine SW.cond_f (t := false) rfl rfl ?_
    refine SW.skip ?_
    refine SW.seq ?_
    refine SW.region ?_
    refine SOps.val (v := errV (some (EV.fault x e))) rfl (wantN rfl) (fun _ => by kernel_rfl) ?_
    refine SOps.nil ?_
    refine SW.block ?_
    refine SW.seq ?_
    refine SW.region ?_
    refine SOps.val (v := .tuple #[errV (some (EV.fault x e)), .bool true]) rfl (wantN rfl) (fun w => xassert (u := fun v => .tuple #[.iface 91 v, .bool true]) rfl rfl xHasUnwF w) ?_
    refine SOps.val (v := .bool true) rfl (wantN rfl) (fun _ => by kernel_rfl) ?_
    refine SOps.val (v := errV (some (EV.fault x e))) rfl (wantN rfl) (fun _ => by kernel_rfl) ?_
    refine SOps.nil ?_
    refine SW.cond_t (t := true) rfl rfl ?_
    refine SW.seq ?_
    refine SW.region ?_
    refine SOps.val (v := errV (some (EV.fault x e))) rfl (wantN rfl) (fun _ => by kernel_rfl) ?_
    refine SOps.nil ?_
    refine SW.seq ?_
    refine SW.region ?_
    refine SOps.val (v := errV (some (EV.fault x e))) rfl (wantN rfl) (fun _ => by kernel_rfl) ?_
    refine SOps.enter rfl (wantN rfl) (fun _ => by kernel_rfl) (api_Fault_Unwrap.sound 1 x (some e) _ (fun e' H' => e' = (some e) ∧ H' = (SH.upd H b6 ⟨[.pointer (some ⟨1, 72, none⟩), pv (some (c, 0)), .int .u64 150], 100, false, 3⟩)) (Unwrap_spec ⟨rfl, rfl⟩)) ?_
    rintro v H' ⟨e', rfl, rfl, rfl⟩
    refine SOps.val (v := errV (some e)) rfl (wantN rfl) (fun _ => by kernel_rfl) ?_
    refine SOps.nil ?_
    refine SW.seq ?_
    refine SW.region ?_
    refine SOps.val (v := errV (some e)) rfl (wantN rfl) (fun _ => by kernel_rfl) ?_
    refine SOps.val (v := .bool false) rfl (wantN rfl) (fun w => ev_errEq (e := (some e)) rfl Tryd.underlying31 rfl rfl w) ?_
    refine SOps.nil ?_
    refine SW.cond_f (t := false) rfl rfl ?_
    refine SW.skip ?_
    exact ⟨e.depth + 1, by have : (EV.fault x e).depth = e.depth + 1 := rfl; omega, _, e, Fr.upds_self _ _ ⟨rfl, rfl, rfl, rfl, trivial⟩, rfl, Nat.lt_succ_self _, hf⟩
theorem AsE_sound {e : EV} {H : SH} {a : Nat × Nat} {R : Value → SH → Prop} (hg : H.has (0, 0) (rtv 31)) (hw : H.wrs a 1) (hy : ∀ cs, findE e = some cs → R (.bool true) (SH.setl H a cs)) (hn : findE e = none → R (.bool false) H) :
    SCalls Tryd.prog 31 #[errV (some e), .iface 72 (pv (some a))] H (fun v H' => ∃ q, v = .bool q ∧ R (.bool q) H') := by
  refine SCalls.body Tryd.func31 rfl (Nat.le_of_ble_eq_true rfl) ?_
  refine SW.seq ?_
  refine SW.region ?_
  refine SOps.val (v := .bool false) rfl (wantN rfl) (fun _ => by kernel_rfl) ?_
  refine SOps.nil ?_
  refine SW.seq ?_
  refine SW.seq ?_
  refine SW.region ?_
  refine SOps.val (v := errV (some e)) rfl (wantN rfl) (fun _ => by kernel_rfl) ?_
  refine SOps.val (v := .bool false) rfl (wantN rfl) (fun w => ev_errEq (e := some e) rfl Tryd.underlying31 rfl rfl w) ?_
  refine SOps.nil ?_
  refine SW.cond_f (t := false) rfl rfl ?_
  refine SW.skip ?_
  refine SW.seq ?_
  refine SW.seq ?_
  refine SW.region ?_
  refine SOps.val (v := .iface 72 (pv (some a))) rfl (wantN rfl) (fun _ => by kernel_rfl) ?_
  refine SOps.val (v := .bool false) rfl (wantN rfl) (fun _ => by kernel_rfl) ?_
  refine SOps.nil ?_
  refine SW.cond_f (t := false) rfl rfl ?_
  refine SW.skip ?_
  refine SW.seq ?_
  refine SW.region ?_
  refine SOps.val (v := .iface 72 (pv (some a))) rfl (wantN rfl) (fun _ => by kernel_rfl) ?_
  refine SOps.xalloc (mk := fun b => rvv 72 (b, 0) 150) (cs := #[pv (some a)]) (t := 72) rfl (wantN rfl) (fun w => by kernel_rfl) (fun c hc0 => ?_)
  refine SOps.alloc rfl rfl (wantN rfl) (z := .agg #[.pointer none, .pointer none, .int .u64 0]) (by kernel_rfl) (fun b5 hb5 => ?_)
  refine SOps.storeL (p := (b5, 0)) (v := rvv 72 (c, 0) 150) (cs := [.pointer (some ⟨1, 72, none⟩), pv (some (c, 0)), .int .u64 150]) rfl rfl (wantN rfl) (size := 3) (by kernel_rfl) rfl rfl rfl rfl (by simp [Value.oneCell', pv]) (wrs_upd rfl (Nat.le_of_ble_eq_true rfl)) ?_
  rw [setl_upd]
  have hV : ((H.upd c ⟨[pv (some a)], 72, false, 1⟩).upd b5 ⟨[.pointer (some ⟨1, 72, none⟩), pv (some (c, 0)), .int .u64 150], 100, false, 3⟩).row (some (b5, 0)) [.pointer (some ⟨1, 72, none⟩), pv (some (c, 0)), .int .u64 150] := row_upd rfl
  have hcb : c ≠ b5 := by rintro rfl; rw [SH.upd_same] at hb5; cases hb5
  have hc : ((H.upd c ⟨[pv (some a)], 72, false, 1⟩).upd b5 ⟨[.pointer (some ⟨1, 72, none⟩), pv (some (c, 0)), .int .u64 150], 100, false, 3⟩).has (c, 0) (pv (some a)) := has_upd_ne hcb (has_upd rfl)
  have hle : SH.le H ((H.upd c ⟨[pv (some a)], 72, false, 1⟩).upd b5 ⟨[.pointer (some ⟨1, 72, none⟩), pv (some (c, 0)), .int .u64 150], 100, false, 3⟩) := (le_upd hc0).trans (le_upd hb5)
  have hg' := hg.le hle
  show SOps _ _ _ _ _ ((H.upd c ⟨[pv (some a)], 72, false, 1⟩).upd b5 ⟨[.pointer (some ⟨1, 72, none⟩), pv (some (c, 0)), .int .u64 150], 100, false, 3⟩) _
  refine SOps.nil ?_
  refine SW.seq ?_
  refine SW.region ?_
  refine SOps.rd (v := rvv 72 (c, 0) 150) rfl (wantN rfl) (fun w hw => ev_loadN rfl (fun _ => by kernel_rfl) (size := 3) (by kernel_rfl) (p := (b5, 0)) (cs := [.pointer (some ⟨1, 72, none⟩), pv (some (c, 0)), .int .u64 150]) rfl rfl hV w hw) ?_
  refine SOps.val (v := rtv 72) rfl (wantN rfl) (fun _ => by kernel_rfl) ?_
  refine SOps.val (v := rtv 72) rfl (wantN rfl) (fun _ => by kernel_rfl) ?_
  refine SOps.nil ?_
  refine SW.seq ?_
  refine SW.seq ?_
  refine SW.region ?_
  refine SOps.val (v := rtv 72) rfl (wantN rfl) (fun _ => by kernel_rfl) ?_
  refine SOps.val (v := .int .u8 22) rfl (wantN rfl) (fun _ => by kernel_rfl) ?_
  refine SOps.val (v := .bool false) rfl (wantN rfl) (fun _ => by kernel_rfl) ?_
  refine SOps.val (v := .bool false) rfl (wantN rfl) (fun _ => by kernel_rfl) ?_
  refine SOps.rd (v := rvv 72 (c, 0) 150) rfl (wantY (c := false) rfl rfl rfl rfl) (fun w hw => ev_loadN rfl (fun _ => by kernel_rfl) (size := 3) (by kernel_rfl) (p := (b5, 0)) (cs := [.pointer (some ⟨1, 72, none⟩), pv (some (c, 0)), .int .u64 150]) rfl rfl hV w hw) ?_
  refine SOps.rd (v := .bool false) rfl (wantY (c := false) rfl rfl rfl rfl) (fun w hw => xIsNilE hc hw rfl rfl) ?_
  refine SOps.val (v := .bool false) rfl (wantN rfl) (fun _ => by kernel_rfl) ?_
  refine SOps.nil ?_
  refine SW.cond_f (t := false) rfl rfl ?_
  refine SW.skip ?_
  refine SW.seq ?_
  refine SW.region ?_
  refine SOps.val (v := rtv 72) rfl (wantN rfl) (fun _ => by kernel_rfl) ?_
  refine SOps.val (v := rtv 70) rfl (wantN rfl) (fun _ => by kernel_rfl) ?_
  refine SOps.val (v := rtv 70) rfl (wantN rfl) (fun _ => by kernel_rfl) ?_
  refine SOps.nil ?_
  refine SW.seq ?_
  refine SW.seq ?_
  refine SW.region ?_
  refine SOps.val (v := rtv 70) rfl (wantN rfl) (fun _ => by kernel_rfl) ?_
  refine SOps.val (v := .int .u8 2) rfl (wantN rfl) (fun _ => by kernel_rfl) ?_
  refine SOps.val (v := .bool true) rfl (wantN rfl) (fun _ => by kernel_rfl) ?_
  refine SOps.val (v := .bool true) rfl (wantN rfl) (fun _ => by kernel_rfl) ?_
  refine SOps.val (v := rtv 70) rfl (wantY (c := true) rfl rfl rfl rfl) (fun _ => by kernel_rfl) ?_
  refine SOps.rd (v := rtv 31) rfl (wantY (c := true) rfl rfl rfl rfl) (fun w hw => ev_load1 rfl (fun _ => by kernel_rfl) (p := (0, 0)) rfl hg' w hw) ?_
  refine SOps.val (v := .bool true) rfl (wantY (c := true) rfl rfl rfl rfl) (fun _ => by kernel_rfl) ?_
  refine SOps.val (v := .bool false) rfl (wantY (c := true) rfl rfl rfl rfl) (fun _ => by kernel_rfl) ?_
  refine SOps.val (v := .bool false) rfl (wantN rfl) (fun _ => by kernel_rfl) ?_
  refine SOps.nil ?_
  refine SW.cond_f (t := false) rfl rfl ?_
  refine SW.skip ?_
  refine SW.seq ?_
  refine SW.region ?_
  refine SOps.val (v := errV (some e)) rfl (wantN rfl) (fun _ => by kernel_rfl) ?_
  refine SOps.val (v := .iface 72 (pv (some a))) rfl (wantN rfl) (fun _ => by kernel_rfl) ?_
  refine SOps.rd (v := rvv 72 (c, 0) 150) rfl (wantN rfl) (fun w hw => ev_loadN rfl (fun _ => by kernel_rfl) (size := 3) (by kernel_rfl) (p := (b5, 0)) (cs := [.pointer (some ⟨1, 72, none⟩), pv (some (c, 0)), .int .u64 150]) rfl rfl hV w hw) ?_
  refine SOps.val (v := rtv 70) rfl (wantN rfl) (fun _ => by kernel_rfl) ?_
  refine SOps.enter rfl (wantN rfl) (fun _ => by kernel_rfl) (asE_sound (R := fun v H' => (∀ cs, findE e = some cs → v = .bool true ∧ H' = SH.setl ((H.upd c ⟨[pv (some a)], 72, false, 1⟩).upd b5 ⟨[.pointer (some ⟨1, 72, none⟩), pv (some (c, 0)), .int .u64 150], 100, false, 3⟩) a cs) ∧ (findE e = none → v = .bool false ∧ H' = ((H.upd c ⟨[pv (some a)], 72, false, 1⟩).upd b5 ⟨[.pointer (some ⟨1, 72, none⟩), pv (some (c, 0)), .int .u64 150], 100, false, 3⟩))) hc (wrs_up hw hc0 hb5) (fun cs h1 => ⟨fun cs' h2 => (by rw [h1] at h2; cases h2; exact ⟨rfl, rfl⟩), fun h2 => (by rw [h1] at h2; cases h2)⟩) (fun h1 => ⟨fun cs h2 => (by rw [h1] at h2; cases h2), fun _ => ⟨rfl, rfl⟩⟩)) ?_
  rintro v H' ⟨q, rfl, h1, h2⟩
  refine SOps.val (v := .bool q) rfl (wantN rfl) (fun _ => by kernel_rfl) ?_
  refine SOps.nil ?_
  cases hf : findE e with
  | none =>
    obtain ⟨e1, rfl⟩ := h2 hf
    cases e1
    exact SW.ret (retQ.mk (.bool false) (res1 rfl rfl) hle ⟨false, rfl, hn hf⟩)
  | some cs =>
    obtain ⟨e1, rfl⟩ := h1 cs hf
    cases e1
    exact SW.ret (retQ.mk (.bool true) (res1 rfl rfl) (le_setl2 hc0 hb5 hw) ⟨true, rfl, hy cs hf⟩)
theorem asF_sound {e0 : EV} {H : SH} {a : Nat × Nat} {c : Nat} {R : Value → SH → Prop} (hc : H.has (c, 0) (pv (some a))) (hw : H.wrs a 2) (hy : ∀ cs, findF e0 = some cs → R (.bool true) (SH.setl H a cs)) (hn : findF e0 = none → R (.bool false) H) :
    SCalls Tryd.prog 58 #[errV (some e0), .iface 92 (pv (some a)), rvv 92 (c, 0) 150, rtv 91] H (fun v H' => ∃ q, v = .bool q ∧ R (.bool q) H') := by
  refine SCalls.body Tryd.func58 rfl (Nat.le_of_ble_eq_true rfl) ?_
  refine SW.seq ?_
  refine SW.region ?_
  refine SOps.box rfl rfl (wantN rfl) (v := rvv 92 (c, 0) 150) rfl (fun b6 hb6 => ?_)
  refine SOps.val (v := .bool false) rfl (wantN rfl) (fun _ => by kernel_rfl) ?_
  refine SOps.nil ?_
  refine SW.block ?_
  refine SW.loop (fun k fr H' => ∃ (g : Fr) (e : EV), fr = g.upds [(0, errV (some e)), (1, .iface 92 (pv (some a))), (3, rtv 91), (6, pv (some (b6, 0)))] ∧ H' = (SH.upd H b6 ⟨[.pointer (some ⟨1, 92, none⟩), pv (some (c, 0)), .int .u64 150], 100, false, 3⟩) ∧ e.depth < k ∧ findF e = findF e0) (e0.depth + 1) ⟨_, e0, Fr.upds_self _ _ ⟨rfl, rfl, rfl, rfl, trivial⟩, rfl, Nat.lt_succ_self _, rfl⟩ ?_
  rintro k fr H' ⟨g, e, rfl, rfl, hk, hf⟩
  have hV : (SH.upd H b6 ⟨[.pointer (some ⟨1, 92, none⟩), pv (some (c, 0)), .int .u64 150], 100, false, 3⟩).row (some (b6, 0)) [.pointer (some ⟨1, 92, none⟩), pv (some (c, 0)), .int .u64 150] := row_upd rfl
  have hne : c ≠ b6 := by rintro rfl; obtain ⟨o, h1, _⟩ := hc; rw [hb6] at h1; cases h1
  have hne2 : a.1 ≠ b6 := by intro h1; obtain ⟨o, h2, _⟩ := hw; rw [h1, hb6] at h2; cases h2
  have hc' := has_upd_ne (o := (⟨[.pointer (some ⟨1, 92, none⟩), pv (some (c, 0)), .int .u64 150], 100, false, 3⟩ : AO)) hne hc
  have hw' := wrs_upd_ne (k := a.2) (o := (⟨[.pointer (some ⟨1, 92, none⟩), pv (some (c, 0)), .int .u64 150], 100, false, 3⟩ : AO)) hne2 hw
  have hle := le_upd (o := (⟨[.pointer (some ⟨1, 92, none⟩), pv (some (c, 0)), .int .u64 150], 100, false, 3⟩ : AO)) hb6
  rcases e with x | x | ⟨x, e⟩
  · refine SW.block ?_
    refine SW.seq ?_
    refine SW.seq ?_
    refine SW.region ?_
    refine SOps.val (v := errV (some (EV.no x))) rfl (wantN rfl) (fun _ => by kernel_rfl) ?_
    refine SOps.val (v := rtv 70) rfl (wantN rfl) (fun _ => by kernel_rfl) ?_
    refine SOps.val (v := rtv 91) rfl (wantN rfl) (fun _ => by kernel_rfl) ?_
    refine SOps.val (v := .bool false) rfl (wantN rfl) (fun _ => by kernel_rfl) ?_
    refine SOps.nil ?_
    refine SW.cond_f (t := false) rfl rfl ?_
    refine SW.skip ?_
    refine SW.seq ?_
    refine SW.seq ?_
    refine SW.region ?_
    refine SOps.val (v := errV (some (EV.no x))) rfl (wantN rfl) (fun _ => by kernel_rfl) ?_
    refine SOps.val (v := .tuple #[.nilIface, .bool false]) rfl (wantN rfl) (fun w => xassert (u := fun _ => .tuple #[.nilIface, .bool false]) rfl rfl xNoAsN w) ?_
    refine SOps.val (v := .tuple #[.nilIface, .bool false]) rfl (wantN rfl) (fun _ => by kernel_rfl) ?_
    refine SOps.val (v := .nilIface) rfl (wantN rfl) (fun _ => by kernel_rfl) ?_
    refine SOps.val (v := .bool false) rfl (wantN rfl) (fun _ => by kernel_rfl) ?_
    refine SOps.val (v := .nilIface) rfl (wantN rfl) (fun _ => by kernel_rfl) ?_
    refine SOps.val (v := .bool false) rfl (wantN rfl) (fun _ => by kernel_rfl) ?_
    refine SOps.nil ?_
    refine SW.seq ?_
    refine SW.region ?_
    refine SOps.val (v := .bool false) rfl (wantN rfl) (fun _ => by kernel_rfl) ?_
    refine SOps.val (v := .bool false) rfl (wantN rfl) (fun _ => by kernel_rfl) ?_
    refine SOps.off rfl (wantX (c := false) rfl rfl rfl rfl) ?_
    refine SOps.off rfl (wantX (c := false) rfl rfl rfl rfl) ?_
    refine SOps.off rfl (wantX (c := false) rfl rfl rfl rfl) ?_
    refine SOps.val (v := .bool false) rfl (wantN rfl) (fun _ => by kernel_rfl) ?_
    refine SOps.nil ?_
    refine SW.cond_f (t := false) rfl rfl ?_
    refine SW.skip ?_
    refine SW.seq ?_
    refine SW.region ?_
    refine SOps.val (v := errV (some (EV.no x))) rfl (wantN rfl) (fun _ => by kernel_rfl) ?_
    refine SOps.nil ?_
    refine SW.block ?_
    refine SW.seq ?_
    refine SW.region ?_
    refine SOps.val (v := .tuple #[.nilIface, .bool false]) rfl (wantN rfl) (fun w => xassert (u := fun _ => .tuple #[.nilIface, .bool false]) rfl rfl xNoUnwN w) ?_
    refine SOps.val (v := .bool false) rfl (wantN rfl) (fun _ => by kernel_rfl) ?_
    refine SOps.val (v := .nilIface) rfl (wantN rfl) (fun _ => by kernel_rfl) ?_
    refine SOps.nil ?_
    refine SW.cond_f (t := false) rfl rfl ?_
    refine SW.seq ?_
    refine SW.region ?_
    refine SOps.val (v := .tuple #[.nilIface, .bool false]) rfl (wantN rfl) (fun w => xassert (u := fun _ => .tuple #[.nilIface, .bool false]) rfl rfl xNoUnsN w) ?_
    refine SOps.val (v := .bool false) rfl (wantN rfl) (fun _ => by kernel_rfl) ?_
    refine SOps.val (v := .nilIface) rfl (wantN rfl) (fun _ => by kernel_rfl) ?_
    refine SOps.nil ?_
    refine SW.cond_f (t := false) rfl rfl ?_
    refine SW.seq ?_
    refine SW.region ?_
    refine SOps.val (v := errV (some (EV.no x))) rfl (wantN rfl) (fun _ => by kernel_rfl) ?_
    refine SOps.nil ?_
    refine SW.seq ?_
    refine SW.region ?_
    refine SOps.val (v := .bool false) rfl (wantN rfl) (fun _ => by kernel_rfl) ?_
    refine SOps.nil ?_
    exact SW.ret (retQ.mk (.bool false) (res1 rfl rfl) hle ⟨false, rfl, hn hf.symm⟩)
  · refine SW.block ?_
    refine SW.seq ?_
    refine SW.seq ?_
    refine SW.region ?_
    refine SOps.val (v := errV (some (EV.fault0 x))) rfl (wantN rfl) (fun _ => by kernel_rfl) ?_
    refine SOps.val (v := rtv 91) rfl (wantN rfl) (fun _ => by kernel_rfl) ?_
    refine SOps.val (v := rtv 91) rfl (wantN rfl) (fun _ => by kernel_rfl) ?_
    refine SOps.val (v := .bool true) rfl (wantN rfl) (fun _ => by kernel_rfl) ?_
    refine SOps.nil ?_
    refine SW.cond_t (t := true) rfl rfl ?_
    refine SW.seq ?_
    refine SW.region ?_
    refine SOps.rd (v := rvv 92 (c, 0) 150) rfl (wantN rfl) (fun w hw => ev_loadN rfl (fun _ => by kernel_rfl) (size := 3) (by kernel_rfl) (p := (b6, 0)) (cs := [.pointer (some ⟨1, 92, none⟩), pv (some (c, 0)), .int .u64 150]) rfl rfl hV w hw) ?_
    refine SOps.rd (v := rvv 91 a 409) rfl (wantN rfl) (fun w hw => xElemF hc' hw rfl rfl) ?_
    refine SOps.val (v := errV (some (EV.fault0 x))) rfl (wantN rfl) (fun _ => by kernel_rfl) ?_
    refine SOps.xalloc (mk := fun b => rvv 91 (b, 0) 153) (cs := #[.int .i64 x, .nilIface]) (t := 91) rfl (wantN rfl) (fun w => by kernel_rfl) (fun b7 hb7 => ?_)
    refine xSetF (cs := [.int .i64 x, .nilIface]) (a := a) (b := b7) rfl rfl rfl (wantN rfl) hw' hb7 rfl (errV_one none) rfl ?_
    refine SOps.nil ?_
    refine SW.seq ?_
    refine SW.region ?_
    refine SOps.val (v := .bool true) rfl (wantN rfl) (fun _ => by kernel_rfl) ?_
    refine SOps.nil ?_
    exact SW.ret (retQ.mk (.bool true) (res1 rfl rfl) (le_setl hle hb7 hw) ⟨true, rfl, hy _ hf.symm⟩)
  · refine SW.block ?_
    refine SW.seq ?_
    refine SW.seq ?_
    refine SW.region ?_
    refine SOps.val (v := errV (some (EV.fault x e))) rfl (wantN rfl) (fun _ => by kernel_rfl) ?_
    refine SOps.val (v := rtv 91) rfl (wantN rfl) (fun _ => by kernel_rfl) ?_
    refine SOps.val (v := rtv 91) rfl (wantN rfl) (fun _ => by kernel_rfl) ?_
    refine SOps.val (v := .bool true) rfl (wantN rfl) (fun _ => by kernel_rfl) ?_
    refine SOps.nil ?_
    refine SW.cond_t (t := true) rfl rfl ?_
    refine SW.seq ?_
    refine SW.region ?_
    refine SOps.rd (v := rvv 92 (c, 0) 150) rfl (wantN rfl) (fun w hw => ev_loadN rfl (fun _ => by kernel_rfl) (size := 3) (by kernel_rfl) (p := (b6, 0)) (cs := [.pointer (some ⟨1, 92, none⟩), pv (some (c, 0)), .int .u64 150]) rfl rfl hV w hw) ?_
    refine SOps.rd (v := rvv 91 a 409) rfl (wantN rfl) (fun w hw => xElemF hc' hw rfl rfl) ?_
    refine SOps.val (v := errV (some (EV.fault x e))) rfl (wantN rfl) (fun _ => by kernel_rfl) ?_
    refine SOps.xalloc (mk := fun b => rvv 91 (b, 0) 153) (cs := #[.int .i64 x, errV (some e)]) (t := 91) rfl (wantN rfl) (fun w => by kernel_rfl) (fun b7 hb7 => ?_)
    refine xSetF (cs := [.int .i64 x, errV (some e)]) (a := a) (b := b7) rfl rfl rfl (wantN rfl) hw' hb7 rfl (errV_one _) rfl ?_
    refine SOps.nil ?_
    refine SW.seq ?_
    refine SW.region ?_
    refine SOps.val (v := .bool true) rfl (wantN rfl) (fun _ => by kernel_rfl) ?_
    refine SOps.nil ?_
    exact SW.ret (retQ.mk (.bool true) (res1 rfl rfl) (le_setl hle hb7 hw) ⟨true, rfl, hy _ hf.symm⟩)
theorem AsF_sound {e : EV} {H : SH} {a : Nat × Nat} {R : Value → SH → Prop} (hg : H.has (0, 0) (rtv 31)) (hw : H.wrs a 2) (hy : ∀ cs, findF e = some cs → R (.bool true) (SH.setl H a cs)) (hn : findF e = none → R (.bool false) H) :
    SCalls Tryd.prog 31 #[errV (some e), .iface 92 (pv (some a))] H (fun v H' => ∃ q, v = .bool q ∧ R (.bool q) H') := by
  refine SCalls.body Tryd.func31 rfl (Nat.le_of_ble_eq_true rfl) ?_
  refine SW.seq ?_
  refine SW.region ?_
  refine SOps.val (v := .bool false) rfl (wantN rfl) (fun _ => by kernel_rfl) ?_
  refine SOps.nil ?_
  refine SW.seq ?_
  refine SW.seq ?_
  refine SW.region ?_
  refine SOps.val (v := errV (some e)) rfl (wantN rfl) (fun _ => by kernel_rfl) ?_
  refine SOps.val (v := .bool false) rfl (wantN rfl) (fun w => ev_errEq (e := some e) rfl Tryd.underlying31 rfl rfl w) ?_
  refine SOps.nil ?_
  refine SW.cond_f (t := false) rfl rfl ?_
  refine SW.skip ?_
  refine SW.seq ?_
  refine SW.seq ?_
  refine SW.region ?_
  refine SOps.val (v := .iface 92 (pv (some a))) rfl (wantN rfl) (fun _ => by kernel_rfl) ?_
  refine SOps.val (v := .bool false) rfl (wantN rfl) (fun _ => by kernel_rfl) ?_
  refine SOps.nil ?_
  refine SW.cond_f (t := false) rfl rfl ?_
  refine SW.skip ?_
  refine SW.seq ?_
  refine SW.region ?_
  refine SOps.val (v := .iface 92 (pv (some a))) rfl (wantN rfl) (fun _ => by kernel_rfl) ?_
  refine SOps.xalloc (mk := fun b => rvv 92 (b, 0) 150) (cs := #[pv (some a)]) (t := 92) rfl (wantN rfl) (fun w => by kernel_rfl) (fun c hc0 => ?_)
  refine SOps.alloc rfl rfl (wantN rfl) (z := .agg #[.pointer none, .pointer none, .int .u64 0]) (by kernel_rfl) (fun b5 hb5 => ?_)
  refine SOps.storeL (p := (b5, 0)) (v := rvv 92 (c, 0) 150) (cs := [.pointer (some ⟨1, 92, none⟩), pv (some (c, 0)), .int .u64 150]) rfl rfl (wantN rfl) (size := 3) (by kernel_rfl) rfl rfl rfl rfl (by simp [Value.oneCell', pv]) (wrs_upd rfl (Nat.le_of_ble_eq_true rfl)) ?_
  rw [setl_upd]
  have hV : ((H.upd c ⟨[pv (some a)], 92, false, 1⟩).upd b5 ⟨[.pointer (some ⟨1, 92, none⟩), pv (some (c, 0)), .int .u64 150], 100, false, 3⟩).row (some (b5, 0)) [.pointer (some ⟨1, 92, none⟩), pv (some (c, 0)), .int .u64 150] := row_upd rfl
  have hcb : c ≠ b5 := by rintro rfl; rw [SH.upd_same] at hb5; cases hb5
  have hc : ((H.upd c ⟨[pv (some a)], 92, false, 1⟩).upd b5 ⟨[.pointer (some ⟨1, 92, none⟩), pv (some (c, 0)), .int .u64 150], 100, false, 3⟩).has (c, 0) (pv (some a)) := has_upd_ne hcb (has_upd rfl)
  have hle : SH.le H ((H.upd c ⟨[pv (some a)], 92, false, 1⟩).upd b5 ⟨[.pointer (some ⟨1, 92, none⟩), pv (some (c, 0)), .int .u64 150], 100, false, 3⟩) := (le_upd hc0).trans (le_upd hb5)
  have hg' := hg.le hle
  show SOps _ _ _ _ _ ((H.upd c ⟨[pv (some a)], 92, false, 1⟩).upd b5 ⟨[.pointer (some ⟨1, 92, none⟩), pv (some (c, 0)), .int .u64 150], 100, false, 3⟩) _
  refine SOps.nil ?_
  refine SW.seq ?_
  refine SW.region ?_
  refine SOps.rd (v := rvv 92 (c, 0) 150) rfl (wantN rfl) (fun w hw => ev_loadN rfl (fun _ => by kernel_rfl) (size := 3) (by kernel_rfl) (p := (b5, 0)) (cs := [.pointer (some ⟨1, 92, none⟩), pv (some (c, 0)), .int .u64 150]) rfl rfl hV w hw) ?_
  refine SOps.val (v := rtv 92) rfl (wantN rfl) (fun _ => by kernel_rfl) ?_
  refine SOps.val (v := rtv 92) rfl (wantN rfl) (fun _ => by kernel_rfl) ?_
  refine SOps.nil ?_
  refine SW.seq ?_
  refine SW.seq ?_
  refine SW.region ?_
  refine SOps.val (v := rtv 92) rfl (wantN rfl) (fun _ => by kernel_rfl) ?_
  refine SOps.val (v := .int .u8 22) rfl (wantN rfl) (fun _ => by kernel_rfl) ?_
  refine SOps.val (v := .bool false) rfl (wantN rfl) (fun _ => by kernel_rfl) ?_
  refine SOps.val (v := .bool false) rfl (wantN rfl) (fun _ => by kernel_rfl) ?_
  refine SOps.rd (v := rvv 92 (c, 0) 150) rfl (wantY (c := false) rfl rfl rfl rfl) (fun w hw => ev_loadN rfl (fun _ => by kernel_rfl) (size := 3) (by kernel_rfl) (p := (b5, 0)) (cs := [.pointer (some ⟨1, 92, none⟩), pv (some (c, 0)), .int .u64 150]) rfl rfl hV w hw) ?_
  refine SOps.rd (v := .bool false) rfl (wantY (c := false) rfl rfl rfl rfl) (fun w hw => xIsNilF hc hw rfl rfl) ?_
  refine SOps.val (v := .bool false) rfl (wantN rfl) (fun _ => by kernel_rfl) ?_
  refine SOps.nil ?_
  refine SW.cond_f (t := false) rfl rfl ?_
  refine SW.skip ?_
  refine SW.seq ?_
  refine SW.region ?_
  refine SOps.val (v := rtv 92) rfl (wantN rfl) (fun _ => by kernel_rfl) ?_
  refine SOps.val (v := rtv 91) rfl (wantN rfl) (fun _ => by kernel_rfl) ?_
  refine SOps.val (v := rtv 91) rfl (wantN rfl) (fun _ => by kernel_rfl) ?_
  refine SOps.nil ?_
  refine SW.seq ?_
  refine SW.seq ?_
  refine SW.region ?_
  refine SOps.val (v := rtv 91) rfl (wantN rfl) (fun _ => by kernel_rfl) ?_
  refine SOps.val (v := .int .u8 25) rfl (wantN rfl) (fun _ => by kernel_rfl) ?_
  refine SOps.val (v := .bool true) rfl (wantN rfl) (fun _ => by kernel_rfl) ?_
  refine SOps.val (v := .bool true) rfl (wantN rfl) (fun _ => by kernel_rfl) ?_
  refine SOps.val (v := rtv 91) rfl (wantY (c := true) rfl rfl rfl rfl) (fun _ => by kernel_rfl) ?_
  refine SOps.rd (v := rtv 31) rfl (wantY (c := true) rfl rfl rfl rfl) (fun w hw => ev_load1 rfl (fun _ => by kernel_rfl) (p := (0, 0)) rfl hg' w hw) ?_
  refine SOps.val (v := .bool true) rfl (wantY (c := true) rfl rfl rfl rfl) (fun _ => by kernel_rfl) ?_
  refine SOps.val (v := .bool false) rfl (wantY (c := true) rfl rfl rfl rfl) (fun _ => by kernel_rfl) ?_
  refine SOps.val (v := .bool false) rfl (wantN rfl) (fun _ => by kernel_rfl) ?_
  refine SOps.nil ?_
  refine SW.cond_f (t := false) rfl rfl ?_
  refine SW.skip ?_
  refine SW.seq ?_
  refine SW.region ?_
  refine SOps.val (v := errV (some e)) rfl (wantN rfl) (fun _ => by kernel_rfl) ?_
  refine SOps.val (v := .iface 92 (pv (some a))) rfl (wantN rfl) (fun _ => by kernel_rfl) ?_
  refine SOps.rd (v := rvv 92 (c, 0) 150) rfl (wantN rfl) (fun w hw => ev_loadN rfl (fun _ => by kernel_rfl) (size := 3) (by kernel_rfl) (p := (b5, 0)) (cs := [.pointer (some ⟨1, 92, none⟩), pv (some (c, 0)), .int .u64 150]) rfl rfl hV w hw) ?_
  refine SOps.val (v := rtv 91) rfl (wantN rfl) (fun _ => by kernel_rfl) ?_
  refine SOps.enter rfl (wantN rfl) (fun _ => by kernel_rfl) (asF_sound (R := fun v H' => (∀ cs, findF e = some cs → v = .bool true ∧ H' = SH.setl ((H.upd c ⟨[pv (some a)], 92, false, 1⟩).upd b5 ⟨[.pointer (some ⟨1, 92, none⟩), pv (some (c, 0)), .int .u64 150], 100, false, 3⟩) a cs) ∧ (findF e = none → v = .bool false ∧ H' = ((H.upd c ⟨[pv (some a)], 92, false, 1⟩).upd b5 ⟨[.pointer (some ⟨1, 92, none⟩), pv (some (c, 0)), .int .u64 150], 100, false, 3⟩))) hc (wrs_up hw hc0 hb5) (fun cs h1 => ⟨fun cs' h2 => (by rw [h1] at h2; cases h2; exact ⟨rfl, rfl⟩), fun h2 => (by rw [h1] at h2; cases h2)⟩) (fun h1 => ⟨fun cs h2 => (by rw [h1] at h2; cases h2), fun _ => ⟨rfl, rfl⟩⟩)) ?_
  rintro v H' ⟨q, rfl, h1, h2⟩
  refine SOps.val (v := .bool q) rfl (wantN rfl) (fun _ => by kernel_rfl) ?_
  refine SOps.nil ?_
  cases hf : findF e with
  | none =>
    obtain ⟨e1, rfl⟩ := h2 hf
    cases e1
    exact SW.ret (retQ.mk (.bool false) (res1 rfl rfl) hle ⟨false, rfl, hn hf⟩)
  | some cs =>
    obtain ⟨e1, rfl⟩ := h1 cs hf
    cases e1
    exact SW.ret (retQ.mk (.bool true) (res1 rfl rfl) (le_setl2 hc0 hb5 hw) ⟨true, rfl, hy cs hf⟩)
end Go.Proofs.YtkfbmoekghbgbaaDoor.K
