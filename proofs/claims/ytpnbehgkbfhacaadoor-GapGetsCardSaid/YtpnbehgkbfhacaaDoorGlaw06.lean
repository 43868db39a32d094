import Derived.Test.YtpnbehgkbfhacaaDoorGgap
import Derived.Test.YtpnbehgkbfhacaaDoorGref
import Derived.Test.YtpnbehgkbfhacaaDoorApi2
set_option linter.unusedVariables false
set_option linter.unusedSimpArgs false
set_option maxRecDepth 100000
namespace Go.Proofs.YtpnbehgkbfhacaaDoor.K
open Go
attribute [local irreducible] SW SOps SQ SCalls retQ

/-! ### lading/ladinglaw06.awake: function 31 -/
def ladinglaw06_awake.wp (F : Nat) (H : SH) (K : Bool → SH → Prop) : Prop :=
  ∀ b1, H b1 = none →
  gap_Put.wp F 10 4 (⟨some (b1, 0), 3, 3⟩ : Sl) (SH.upd H b1 ⟨[.int .i64 3, .int .i64 4, .int .i64 7], 3, false, 3⟩) (fun s3 e4 H5 =>
    (s3 = (⟨#[3, 1, 0, 2]⟩ : ByteArray) →
      (e4 = none →
        ∃ Hr, SH.le Hr H5 ∧ K true Hr
      ) ∧ (∀ v7, e4 = some v7 →
        ∃ Hr, SH.le Hr H5 ∧ K false Hr
      )
    ) ∧ (¬ (s3 = (⟨#[3, 1, 0, 2]⟩ : ByteArray)) →
      ∃ Hr, SH.le Hr H5 ∧ K false Hr
    )
  )
set_option maxHeartbeats 8000000 in
theorem ladinglaw06_awake.sound (F : Nat) (H : SH) (K : Bool → SH → Prop) (h : ladinglaw06_awake.wp F H K) : SCalls Tryd.prog 31 #[] H (fun v H' => ∃ (q9 : Bool), v = .bool q9 ∧ K q9 H') := by
  unfold ladinglaw06_awake.wp at h
  refine SCalls.body Tryd.func31 rfl (Nat.le_of_ble_eq_true rfl) ?_
  refine SW.seq ?_
  refine SW.region ?_
  refine SOps.val (v := .bool false) rfl (wantN rfl) (fun _ => by kernel_rfl) ?_
  refine SOps.nil ?_
  refine SW.seq ?_
  refine SW.region ?_
  refine SOps.lit (E := 3) (cs := #[.int .i64 3, .int .i64 4, .int .i64 7]) rfl rfl (wantN rfl) (fun _ => by kernel_rfl) (fun b1 c2 => ?_)
  replace h := h b1 c2
  refine SOps.enter rfl (wantN rfl) (fun _ => by kernel_rfl) (gap_Put.sound F 10 4 (⟨some (b1, 0), 3, 3⟩ : Sl) (SH.upd H b1 ⟨[.int .i64 3, .int .i64 4, .int .i64 7], 3, false, 3⟩) _ h) ?_
  clear h
  rintro v H5 ⟨s3, e4, rfl, h⟩
  refine SOps.val (v := .tuple #[.string s3, errV e4]) rfl (wantN rfl) (fun _ => by kernel_rfl) ?_
  refine SOps.val (v := .string s3) rfl (wantN rfl) (fun _ => by kernel_rfl) ?_
  refine SOps.val (v := errV e4) rfl (wantN rfl) (fun _ => by kernel_rfl) ?_
  refine SOps.val (v := .string s3) rfl (wantN rfl) (fun _ => by kernel_rfl) ?_
  refine SOps.val (v := errV e4) rfl (wantN rfl) (fun _ => by kernel_rfl) ?_
  refine SOps.nil ?_
  refine SW.seq ?_
  refine SW.region ?_
  refine SOps.val (v := .string s3) rfl (wantN rfl) (fun _ => by kernel_rfl) ?_
  refine SOps.val (v := .bool (decide (s3 = (⟨#[3, 1, 0, 2]⟩ : ByteArray)))) rfl (wantN rfl) (fun w => ev_eqS rfl rfl rfl w) ?_
  refine SOps.val (v := .bool (decide (s3 = (⟨#[3, 1, 0, 2]⟩ : ByteArray)))) rfl (wantN rfl) (fun _ => by kernel_rfl) ?_
  by_cases c6 : s3 = (⟨#[3, 1, 0, 2]⟩ : ByteArray)
  · replace h := h.1 c6
    have dc6 : (decide (s3 = (⟨#[3, 1, 0, 2]⟩ : ByteArray))) = true := (decide_eq_true c6)
    refine SOps.val (v := errV e4) rfl (wantY (c := decide (s3 = (⟨#[3, 1, 0, 2]⟩ : ByteArray))) rfl rfl rfl dc6) (fun _ => by kernel_rfl) ?_
    rcases e4 with _ | v7
    · replace h := h.1 rfl
      refine SOps.val (v := .bool true) rfl (wantY (c := decide (s3 = (⟨#[3, 1, 0, 2]⟩ : ByteArray))) rfl rfl rfl dc6) (fun w => ev_errEq (e := none) rfl Tryd.underlying24 rfl rfl w) ?_
      refine SOps.val (v := .bool true) rfl (wantN rfl) (fun w => ev_pickT (v := .bool true) rfl (t := decide (s3 = (⟨#[3, 1, 0, 2]⟩ : ByteArray))) rfl dc6 rfl w) ?_
      refine SOps.val (v := .bool true) rfl (wantN rfl) (fun _ => by kernel_rfl) ?_
      refine SOps.nil ?_
      obtain ⟨Hr, hr, h⟩ := h
      exact SW.ret (retQ.mk (.bool true) (res1 rfl rfl) hr ⟨true, rfl, h⟩)
    · replace h := h.2 v7 rfl
      refine SOps.val (v := .bool false) rfl (wantY (c := decide (s3 = (⟨#[3, 1, 0, 2]⟩ : ByteArray))) rfl rfl rfl dc6) (fun w => ev_errEq (e := some v7) rfl Tryd.underlying24 rfl rfl w) ?_
      refine SOps.val (v := .bool false) rfl (wantN rfl) (fun w => ev_pickT (v := .bool false) rfl (t := decide (s3 = (⟨#[3, 1, 0, 2]⟩ : ByteArray))) rfl dc6 rfl w) ?_
      refine SOps.val (v := .bool false) rfl (wantN rfl) (fun _ => by kernel_rfl) ?_
      refine SOps.nil ?_
      obtain ⟨Hr, hr, h⟩ := h
      exact SW.ret (retQ.mk (.bool false) (res1 rfl rfl) hr ⟨false, rfl, h⟩)
  · replace h := h.2 c6
    have dc6 : (decide (s3 = (⟨#[3, 1, 0, 2]⟩ : ByteArray))) = false := (decide_eq_false c6)
    refine SOps.off rfl (wantX (c := decide (s3 = (⟨#[3, 1, 0, 2]⟩ : ByteArray))) rfl rfl rfl dc6) ?_
    refine SOps.off rfl (wantX (c := decide (s3 = (⟨#[3, 1, 0, 2]⟩ : ByteArray))) rfl rfl rfl dc6) ?_
    refine SOps.val (v := .bool false) rfl (wantN rfl) (fun w => ev_pickF (v := .bool false) rfl (t := decide (s3 = (⟨#[3, 1, 0, 2]⟩ : ByteArray))) rfl dc6 rfl w) ?_
    refine SOps.val (v := .bool false) rfl (wantN rfl) (fun _ => by kernel_rfl) ?_
    refine SOps.nil ?_
    obtain ⟨Hr, hr, h⟩ := h
    exact SW.ret (retQ.mk (.bool false) (res1 rfl rfl) hr ⟨false, rfl, h⟩)

/-! ### lading/ladinglaw06.GapGets: function 7 -/
def ladinglaw06_GapGets.j1 (F : Nat) (K : Bool → SH → Prop) (s117 : ByteArray) (x118 : Int) (x119 : Int) (x120 : Int) (l121 : Sl) (x122 : Int) (e123 : Option EV) (H : SH) : Prop :=
  (x120 < 0 →
    ((l121.len : Int) = 0 →
      (x122 = x118 →
        api_Code.wp F e123 H (fun x143 H144 =>
          (x143 = 2 →
            api_Place.wp F e123 H144 (fun x146 H147 =>
              ∃ Hr, SH.le Hr H147 ∧ K (x146 == x118) Hr
            )
          ) ∧ (¬ (x143 = 2) →
            ∃ Hr, SH.le Hr H144 ∧ K false Hr
          )
        )
      ) ∧ (¬ (x122 = x118) →
        ∃ Hr, SH.le Hr H ∧ K false Hr
      )
    ) ∧ (¬ ((l121.len : Int) = 0) →
      ∃ Hr, SH.le Hr H ∧ K false Hr
    )
  ) ∧ (¬ (x120 < 0) →
    (x120 ≥ x119 →
      ((l121.len : Int) = 0 →
        (x122 = x118 →
          api_Code.wp F e123 H (fun x151 H152 =>
            (x151 = 2 →
              api_Place.wp F e123 H152 (fun x154 H155 =>
                ∃ Hr, SH.le Hr H155 ∧ K (x154 == x118) Hr
              )
            ) ∧ (¬ (x151 = 2) →
              ∃ Hr, SH.le Hr H152 ∧ K false Hr
            )
          )
        ) ∧ (¬ (x122 = x118) →
          ∃ Hr, SH.le Hr H ∧ K false Hr
        )
      ) ∧ (¬ ((l121.len : Int) = 0) →
        ∃ Hr, SH.le Hr H ∧ K false Hr
      )
    ) ∧ (¬ (x120 ≥ x119) →
      ladingref06_Get.wp F s117 x118 x119 x120 H (fun l156 x157 x158 x159 H160 =>
        ∀ b161, H160 b161 = none →
        SH.wrs (SH.upd H160 b161 ⟨[sv Sl.nil, .int .i64 0, .int .i64 0, .int .i64 0], 65, false, 4⟩) (b161, 0) 4 ∧
        ∃ (l164 : Sl),
        SH.has (SH.setl (SH.upd H160 b161 ⟨[sv Sl.nil, .int .i64 0, .int .i64 0, .int .i64 0], 65, false, 4⟩) (b161, 0) [sv l156, .int .i64 x157, .int .i64 x158, .int .i64 x159]) (b161, 0) (sv l164) ∧
        ∃ (q166 : Bool),
        ladingref05_Ints.wp F l121 l164 (SH.setl (SH.upd H160 b161 ⟨[sv Sl.nil, .int .i64 0, .int .i64 0, .int .i64 0], 65, false, 4⟩) (b161, 0) [sv l156, .int .i64 x157, .int .i64 x158, .int .i64 x159]) (fun q166' H' => q166' = q166 ∧ H' = (SH.setl (SH.upd H160 b161 ⟨[sv Sl.nil, .int .i64 0, .int .i64 0, .int .i64 0], 65, false, 4⟩) (b161, 0) [sv l156, .int .i64 x157, .int .i64 x158, .int .i64 x159])) ∧
        (q166 = true →
          ∃ (x169 : Int),
          SH.has (SH.setl (SH.upd H160 b161 ⟨[sv Sl.nil, .int .i64 0, .int .i64 0, .int .i64 0], 65, false, 4⟩) (b161, 0) [sv l156, .int .i64 x157, .int .i64 x158, .int .i64 x159]) (b161, 1) (.int .i64 x169) ∧
          (x122 = x169 →
            ∃ (x172 : Int),
            api_Code.wp F e123 (SH.setl (SH.upd H160 b161 ⟨[sv Sl.nil, .int .i64 0, .int .i64 0, .int .i64 0], 65, false, 4⟩) (b161, 0) [sv l156, .int .i64 x157, .int .i64 x158, .int .i64 x159]) (fun x172' H' => x172' = x172 ∧ H' = (SH.setl (SH.upd H160 b161 ⟨[sv Sl.nil, .int .i64 0, .int .i64 0, .int .i64 0], 65, false, 4⟩) (b161, 0) [sv l156, .int .i64 x157, .int .i64 x158, .int .i64 x159])) ∧
            ∃ (x174 : Int),
            SH.has (SH.setl (SH.upd H160 b161 ⟨[sv Sl.nil, .int .i64 0, .int .i64 0, .int .i64 0], 65, false, 4⟩) (b161, 0) [sv l156, .int .i64 x157, .int .i64 x158, .int .i64 x159]) (b161, 2) (.int .i64 x174) ∧
            (x172 = x174 →
              ∃ (x177 : Int),
              SH.has (SH.setl (SH.upd H160 b161 ⟨[sv Sl.nil, .int .i64 0, .int .i64 0, .int .i64 0], 65, false, 4⟩) (b161, 0) [sv l156, .int .i64 x157, .int .i64 x158, .int .i64 x159]) (b161, 2) (.int .i64 x177) ∧
              (x177 = 0 →
                ∃ Hr, SH.le Hr (SH.setl (SH.upd H160 b161 ⟨[sv Sl.nil, .int .i64 0, .int .i64 0, .int .i64 0], 65, false, 4⟩) (b161, 0) [sv l156, .int .i64 x157, .int .i64 x158, .int .i64 x159]) ∧ K true Hr
              ) ∧ (¬ (x177 = 0) →
                ∃ (x180 : Int),
                api_Place.wp F e123 (SH.setl (SH.upd H160 b161 ⟨[sv Sl.nil, .int .i64 0, .int .i64 0, .int .i64 0], 65, false, 4⟩) (b161, 0) [sv l156, .int .i64 x157, .int .i64 x158, .int .i64 x159]) (fun x180' H' => x180' = x180 ∧ H' = (SH.setl (SH.upd H160 b161 ⟨[sv Sl.nil, .int .i64 0, .int .i64 0, .int .i64 0], 65, false, 4⟩) (b161, 0) [sv l156, .int .i64 x157, .int .i64 x158, .int .i64 x159])) ∧
                ∃ (x182 : Int),
                SH.has (SH.setl (SH.upd H160 b161 ⟨[sv Sl.nil, .int .i64 0, .int .i64 0, .int .i64 0], 65, false, 4⟩) (b161, 0) [sv l156, .int .i64 x157, .int .i64 x158, .int .i64 x159]) (b161, 3) (.int .i64 x182) ∧
                ∃ Hr, SH.le Hr (SH.setl (SH.upd H160 b161 ⟨[sv Sl.nil, .int .i64 0, .int .i64 0, .int .i64 0], 65, false, 4⟩) (b161, 0) [sv l156, .int .i64 x157, .int .i64 x158, .int .i64 x159]) ∧ K (x180 == x182) Hr
              )
            ) ∧ (¬ (x172 = x174) →
              ∃ Hr, SH.le Hr (SH.setl (SH.upd H160 b161 ⟨[sv Sl.nil, .int .i64 0, .int .i64 0, .int .i64 0], 65, false, 4⟩) (b161, 0) [sv l156, .int .i64 x157, .int .i64 x158, .int .i64 x159]) ∧ K false Hr
            )
          ) ∧ (¬ (x122 = x169) →
            ∃ Hr, SH.le Hr (SH.setl (SH.upd H160 b161 ⟨[sv Sl.nil, .int .i64 0, .int .i64 0, .int .i64 0], 65, false, 4⟩) (b161, 0) [sv l156, .int .i64 x157, .int .i64 x158, .int .i64 x159]) ∧ K false Hr
          )
        ) ∧ (¬ (q166 = true) →
          ∃ Hr, SH.le Hr (SH.setl (SH.upd H160 b161 ⟨[sv Sl.nil, .int .i64 0, .int .i64 0, .int .i64 0], 65, false, 4⟩) (b161, 0) [sv l156, .int .i64 x157, .int .i64 x158, .int .i64 x159]) ∧ K false Hr
        )
      )
    )
  )
def ladinglaw06_GapGets.wp (F : Nat) (s1 : ByteArray) (x2 : Int) (x3 : Int) (x4 : Int) (H : SH) (K : Bool → SH → Prop) : Prop :=
  ∀ b5, H b5 = none →
  ladinglaw06_awake.wp F  (SH.upd H b5 ⟨[.int .i64 x3, .int .i64 x4], 55, false, 2⟩) (fun q7 H8 =>
    (q7 = true →
      ((s1.size : Int) > 300 →
        ∃ Hr, SH.le Hr H8 ∧ K true Hr
      ) ∧ (¬ ((s1.size : Int) > 300) →
        ∃ (x11 : Int),
        SH.has H8 (b5, 0) (.int .i64 x11) ∧
        ∃ (x13 : Int),
        SH.has H8 (b5, 1) (.int .i64 x13) ∧
        gap_Get.wp F s1 x2 x11 x13 H8 (fun l15 x16 e17 H18 =>
          gap_Skip.wp F s1 x2 x11 H18 (fun x19 e20 H21 =>
            gap_Count.wp F s1 x2 x11 H21 (fun x22 e23 H24 =>
              (x11 < 0 →
                ((l15.len : Int) = 0 →
                  (x16 = x2 →
                    (x19 = x2 →
                      (x22 = 0 →
                        api_Code.wp F e17 H24 (fun x30 H31 =>
                          (x30 = 1 →
                            api_Place.wp F e17 H31 (fun x33 H34 =>
                              (x33 = x2 →
                                api_Code.wp F e20 H34 (fun x36 H37 =>
                                  (x36 = 1 →
                                    api_Place.wp F e20 H37 (fun x39 H40 =>
                                      (x39 = x2 →
                                        api_Code.wp F e23 H40 (fun x42 H43 =>
                                          (x42 = 1 →
                                            api_Place.wp F e23 H43 (fun x45 H46 =>
                                              ∃ Hr, SH.le Hr H46 ∧ K (x45 == x2) Hr
                                            )
                                          ) ∧ (¬ (x42 = 1) →
                                            ∃ Hr, SH.le Hr H43 ∧ K false Hr
                                          )
                                        )
                                      ) ∧ (¬ (x39 = x2) →
                                        ∃ Hr, SH.le Hr H40 ∧ K false Hr
                                      )
                                    )
                                  ) ∧ (¬ (x36 = 1) →
                                    ∃ Hr, SH.le Hr H37 ∧ K false Hr
                                  )
                                )
                              ) ∧ (¬ (x33 = x2) →
                                ∃ Hr, SH.le Hr H34 ∧ K false Hr
                              )
                            )
                          ) ∧ (¬ (x30 = 1) →
                            ∃ Hr, SH.le Hr H31 ∧ K false Hr
                          )
                        )
                      ) ∧ (¬ (x22 = 0) →
                        ∃ Hr, SH.le Hr H24 ∧ K false Hr
                      )
                    ) ∧ (¬ (x19 = x2) →
                      ∃ Hr, SH.le Hr H24 ∧ K false Hr
                    )
                  ) ∧ (¬ (x16 = x2) →
                    ∃ Hr, SH.le Hr H24 ∧ K false Hr
                  )
                ) ∧ (¬ ((l15.len : Int) = 0) →
                  ∃ Hr, SH.le Hr H24 ∧ K false Hr
                )
              ) ∧ (¬ (x11 < 0) →
                (x11 > 4096 →
                  ((l15.len : Int) = 0 →
                    (x16 = x2 →
                      (x19 = x2 →
                        (x22 = 0 →
                          api_Code.wp F e17 H24 (fun x52 H53 =>
                            (x52 = 1 →
                              api_Place.wp F e17 H53 (fun x55 H56 =>
                                (x55 = x2 →
                                  api_Code.wp F e20 H56 (fun x58 H59 =>
                                    (x58 = 1 →
                                      api_Place.wp F e20 H59 (fun x61 H62 =>
                                        (x61 = x2 →
                                          api_Code.wp F e23 H62 (fun x64 H65 =>
                                            (x64 = 1 →
                                              api_Place.wp F e23 H65 (fun x67 H68 =>
                                                ∃ Hr, SH.le Hr H68 ∧ K (x67 == x2) Hr
                                              )
                                            ) ∧ (¬ (x64 = 1) →
                                              ∃ Hr, SH.le Hr H65 ∧ K false Hr
                                            )
                                          )
                                        ) ∧ (¬ (x61 = x2) →
                                          ∃ Hr, SH.le Hr H62 ∧ K false Hr
                                        )
                                      )
                                    ) ∧ (¬ (x58 = 1) →
                                      ∃ Hr, SH.le Hr H59 ∧ K false Hr
                                    )
                                  )
                                ) ∧ (¬ (x55 = x2) →
                                  ∃ Hr, SH.le Hr H56 ∧ K false Hr
                                )
                              )
                            ) ∧ (¬ (x52 = 1) →
                              ∃ Hr, SH.le Hr H53 ∧ K false Hr
                            )
                          )
                        ) ∧ (¬ (x22 = 0) →
                          ∃ Hr, SH.le Hr H24 ∧ K false Hr
                        )
                      ) ∧ (¬ (x19 = x2) →
                        ∃ Hr, SH.le Hr H24 ∧ K false Hr
                      )
                    ) ∧ (¬ (x16 = x2) →
                      ∃ Hr, SH.le Hr H24 ∧ K false Hr
                    )
                  ) ∧ (¬ ((l15.len : Int) = 0) →
                    ∃ Hr, SH.le Hr H24 ∧ K false Hr
                  )
                ) ∧ (¬ (x11 > 4096) →
                  ladingref06_Count.wp F s1 x2 x11 H24 (fun x69 x70 x71 x72 H73 =>
                    ladingref06_Skip.wp F s1 x2 x11 H73 (fun l74 x75 x76 x77 H78 =>
                      ∀ b79, H78 b79 = none →
                      ∀ b81, (SH.upd H78 b79 ⟨[.int .i64 0, .int .i64 0, .int .i64 0, .int .i64 0], 62, false, 4⟩) b81 = none →
                      SH.wrs (SH.upd (SH.upd H78 b79 ⟨[.int .i64 0, .int .i64 0, .int .i64 0, .int .i64 0], 62, false, 4⟩) b81 ⟨[sv Sl.nil, .int .i64 0, .int .i64 0, .int .i64 0], 65, false, 4⟩) (b79, 0) 4 ∧
                      SH.wrs (SH.setl (SH.upd (SH.upd H78 b79 ⟨[.int .i64 0, .int .i64 0, .int .i64 0, .int .i64 0], 62, false, 4⟩) b81 ⟨[sv Sl.nil, .int .i64 0, .int .i64 0, .int .i64 0], 65, false, 4⟩) (b79, 0) [.int .i64 x69, .int .i64 x70, .int .i64 x71, .int .i64 x72]) (b81, 0) 4 ∧
                      ∃ (x85 : Int),
                      SH.has (SH.setl (SH.setl (SH.upd (SH.upd H78 b79 ⟨[.int .i64 0, .int .i64 0, .int .i64 0, .int .i64 0], 62, false, 4⟩) b81 ⟨[sv Sl.nil, .int .i64 0, .int .i64 0, .int .i64 0], 65, false, 4⟩) (b79, 0) [.int .i64 x69, .int .i64 x70, .int .i64 x71, .int .i64 x72]) (b81, 0) [sv l74, .int .i64 x75, .int .i64 x76, .int .i64 x77]) (b79, 0) (.int .i64 x85) ∧
                      (x22 ≠ x85 →
                        ∃ Hr, SH.le Hr (SH.setl (SH.setl (SH.upd (SH.upd H78 b79 ⟨[.int .i64 0, .int .i64 0, .int .i64 0, .int .i64 0], 62, false, 4⟩) b81 ⟨[sv Sl.nil, .int .i64 0, .int .i64 0, .int .i64 0], 65, false, 4⟩) (b79, 0) [.int .i64 x69, .int .i64 x70, .int .i64 x71, .int .i64 x72]) (b81, 0) [sv l74, .int .i64 x75, .int .i64 x76, .int .i64 x77]) ∧ K false Hr
                      ) ∧ (¬ (x22 ≠ x85) →
                        ∃ (x88 : Int),
                        api_Code.wp F e23 (SH.setl (SH.setl (SH.upd (SH.upd H78 b79 ⟨[.int .i64 0, .int .i64 0, .int .i64 0, .int .i64 0], 62, false, 4⟩) b81 ⟨[sv Sl.nil, .int .i64 0, .int .i64 0, .int .i64 0], 65, false, 4⟩) (b79, 0) [.int .i64 x69, .int .i64 x70, .int .i64 x71, .int .i64 x72]) (b81, 0) [sv l74, .int .i64 x75, .int .i64 x76, .int .i64 x77]) (fun x88' H' => x88' = x88 ∧ H' = (SH.setl (SH.setl (SH.upd (SH.upd H78 b79 ⟨[.int .i64 0, .int .i64 0, .int .i64 0, .int .i64 0], 62, false, 4⟩) b81 ⟨[sv Sl.nil, .int .i64 0, .int .i64 0, .int .i64 0], 65, false, 4⟩) (b79, 0) [.int .i64 x69, .int .i64 x70, .int .i64 x71, .int .i64 x72]) (b81, 0) [sv l74, .int .i64 x75, .int .i64 x76, .int .i64 x77])) ∧
                        ∃ (x90 : Int),
                        SH.has (SH.setl (SH.setl (SH.upd (SH.upd H78 b79 ⟨[.int .i64 0, .int .i64 0, .int .i64 0, .int .i64 0], 62, false, 4⟩) b81 ⟨[sv Sl.nil, .int .i64 0, .int .i64 0, .int .i64 0], 65, false, 4⟩) (b79, 0) [.int .i64 x69, .int .i64 x70, .int .i64 x71, .int .i64 x72]) (b81, 0) [sv l74, .int .i64 x75, .int .i64 x76, .int .i64 x77]) (b79, 2) (.int .i64 x90) ∧
                        (x88 ≠ x90 →
                          ∃ Hr, SH.le Hr (SH.setl (SH.setl (SH.upd (SH.upd H78 b79 ⟨[.int .i64 0, .int .i64 0, .int .i64 0, .int .i64 0], 62, false, 4⟩) b81 ⟨[sv Sl.nil, .int .i64 0, .int .i64 0, .int .i64 0], 65, false, 4⟩) (b79, 0) [.int .i64 x69, .int .i64 x70, .int .i64 x71, .int .i64 x72]) (b81, 0) [sv l74, .int .i64 x75, .int .i64 x76, .int .i64 x77]) ∧ K false Hr
                        ) ∧ (¬ (x88 ≠ x90) →
                          ∃ (x93 : Int),
                          SH.has (SH.setl (SH.setl (SH.upd (SH.upd H78 b79 ⟨[.int .i64 0, .int .i64 0, .int .i64 0, .int .i64 0], 62, false, 4⟩) b81 ⟨[sv Sl.nil, .int .i64 0, .int .i64 0, .int .i64 0], 65, false, 4⟩) (b79, 0) [.int .i64 x69, .int .i64 x70, .int .i64 x71, .int .i64 x72]) (b81, 0) [sv l74, .int .i64 x75, .int .i64 x76, .int .i64 x77]) (b79, 2) (.int .i64 x93) ∧
                          (x93 ≠ 0 →
                            ∃ (x96 : Int),
                            api_Place.wp F e23 (SH.setl (SH.setl (SH.upd (SH.upd H78 b79 ⟨[.int .i64 0, .int .i64 0, .int .i64 0, .int .i64 0], 62, false, 4⟩) b81 ⟨[sv Sl.nil, .int .i64 0, .int .i64 0, .int .i64 0], 65, false, 4⟩) (b79, 0) [.int .i64 x69, .int .i64 x70, .int .i64 x71, .int .i64 x72]) (b81, 0) [sv l74, .int .i64 x75, .int .i64 x76, .int .i64 x77]) (fun x96' H' => x96' = x96 ∧ H' = (SH.setl (SH.setl (SH.upd (SH.upd H78 b79 ⟨[.int .i64 0, .int .i64 0, .int .i64 0, .int .i64 0], 62, false, 4⟩) b81 ⟨[sv Sl.nil, .int .i64 0, .int .i64 0, .int .i64 0], 65, false, 4⟩) (b79, 0) [.int .i64 x69, .int .i64 x70, .int .i64 x71, .int .i64 x72]) (b81, 0) [sv l74, .int .i64 x75, .int .i64 x76, .int .i64 x77])) ∧
                            ∃ (x98 : Int),
                            SH.has (SH.setl (SH.setl (SH.upd (SH.upd H78 b79 ⟨[.int .i64 0, .int .i64 0, .int .i64 0, .int .i64 0], 62, false, 4⟩) b81 ⟨[sv Sl.nil, .int .i64 0, .int .i64 0, .int .i64 0], 65, false, 4⟩) (b79, 0) [.int .i64 x69, .int .i64 x70, .int .i64 x71, .int .i64 x72]) (b81, 0) [sv l74, .int .i64 x75, .int .i64 x76, .int .i64 x77]) (b79, 3) (.int .i64 x98) ∧
                            (x96 ≠ x98 →
                              ∃ Hr, SH.le Hr (SH.setl (SH.setl (SH.upd (SH.upd H78 b79 ⟨[.int .i64 0, .int .i64 0, .int .i64 0, .int .i64 0], 62, false, 4⟩) b81 ⟨[sv Sl.nil, .int .i64 0, .int .i64 0, .int .i64 0], 65, false, 4⟩) (b79, 0) [.int .i64 x69, .int .i64 x70, .int .i64 x71, .int .i64 x72]) (b81, 0) [sv l74, .int .i64 x75, .int .i64 x76, .int .i64 x77]) ∧ K false Hr
                            ) ∧ (¬ (x96 ≠ x98) →
                              ∃ (x101 : Int),
                              SH.has (SH.setl (SH.setl (SH.upd (SH.upd H78 b79 ⟨[.int .i64 0, .int .i64 0, .int .i64 0, .int .i64 0], 62, false, 4⟩) b81 ⟨[sv Sl.nil, .int .i64 0, .int .i64 0, .int .i64 0], 65, false, 4⟩) (b79, 0) [.int .i64 x69, .int .i64 x70, .int .i64 x71, .int .i64 x72]) (b81, 0) [sv l74, .int .i64 x75, .int .i64 x76, .int .i64 x77]) (b81, 1) (.int .i64 x101) ∧
                              (x19 ≠ x101 →
                                ∃ Hr, SH.le Hr (SH.setl (SH.setl (SH.upd (SH.upd H78 b79 ⟨[.int .i64 0, .int .i64 0, .int .i64 0, .int .i64 0], 62, false, 4⟩) b81 ⟨[sv Sl.nil, .int .i64 0, .int .i64 0, .int .i64 0], 65, false, 4⟩) (b79, 0) [.int .i64 x69, .int .i64 x70, .int .i64 x71, .int .i64 x72]) (b81, 0) [sv l74, .int .i64 x75, .int .i64 x76, .int .i64 x77]) ∧ K false Hr
                              ) ∧ (¬ (x19 ≠ x101) →
                                ∃ (x104 : Int),
                                api_Code.wp F e20 (SH.setl (SH.setl (SH.upd (SH.upd H78 b79 ⟨[.int .i64 0, .int .i64 0, .int .i64 0, .int .i64 0], 62, false, 4⟩) b81 ⟨[sv Sl.nil, .int .i64 0, .int .i64 0, .int .i64 0], 65, false, 4⟩) (b79, 0) [.int .i64 x69, .int .i64 x70, .int .i64 x71, .int .i64 x72]) (b81, 0) [sv l74, .int .i64 x75, .int .i64 x76, .int .i64 x77]) (fun x104' H' => x104' = x104 ∧ H' = (SH.setl (SH.setl (SH.upd (SH.upd H78 b79 ⟨[.int .i64 0, .int .i64 0, .int .i64 0, .int .i64 0], 62, false, 4⟩) b81 ⟨[sv Sl.nil, .int .i64 0, .int .i64 0, .int .i64 0], 65, false, 4⟩) (b79, 0) [.int .i64 x69, .int .i64 x70, .int .i64 x71, .int .i64 x72]) (b81, 0) [sv l74, .int .i64 x75, .int .i64 x76, .int .i64 x77])) ∧
                                ∃ (x106 : Int),
                                SH.has (SH.setl (SH.setl (SH.upd (SH.upd H78 b79 ⟨[.int .i64 0, .int .i64 0, .int .i64 0, .int .i64 0], 62, false, 4⟩) b81 ⟨[sv Sl.nil, .int .i64 0, .int .i64 0, .int .i64 0], 65, false, 4⟩) (b79, 0) [.int .i64 x69, .int .i64 x70, .int .i64 x71, .int .i64 x72]) (b81, 0) [sv l74, .int .i64 x75, .int .i64 x76, .int .i64 x77]) (b81, 2) (.int .i64 x106) ∧
                                (x104 ≠ x106 →
                                  ∃ Hr, SH.le Hr (SH.setl (SH.setl (SH.upd (SH.upd H78 b79 ⟨[.int .i64 0, .int .i64 0, .int .i64 0, .int .i64 0], 62, false, 4⟩) b81 ⟨[sv Sl.nil, .int .i64 0, .int .i64 0, .int .i64 0], 65, false, 4⟩) (b79, 0) [.int .i64 x69, .int .i64 x70, .int .i64 x71, .int .i64 x72]) (b81, 0) [sv l74, .int .i64 x75, .int .i64 x76, .int .i64 x77]) ∧ K false Hr
                                ) ∧ (¬ (x104 ≠ x106) →
                                  ∃ (x109 : Int),
                                  SH.has (SH.setl (SH.setl (SH.upd (SH.upd H78 b79 ⟨[.int .i64 0, .int .i64 0, .int .i64 0, .int .i64 0], 62, false, 4⟩) b81 ⟨[sv Sl.nil, .int .i64 0, .int .i64 0, .int .i64 0], 65, false, 4⟩) (b79, 0) [.int .i64 x69, .int .i64 x70, .int .i64 x71, .int .i64 x72]) (b81, 0) [sv l74, .int .i64 x75, .int .i64 x76, .int .i64 x77]) (b81, 2) (.int .i64 x109) ∧
                                  (x109 ≠ 0 →
                                    ∃ (x112 : Int),
                                    api_Place.wp F e20 (SH.setl (SH.setl (SH.upd (SH.upd H78 b79 ⟨[.int .i64 0, .int .i64 0, .int .i64 0, .int .i64 0], 62, false, 4⟩) b81 ⟨[sv Sl.nil, .int .i64 0, .int .i64 0, .int .i64 0], 65, false, 4⟩) (b79, 0) [.int .i64 x69, .int .i64 x70, .int .i64 x71, .int .i64 x72]) (b81, 0) [sv l74, .int .i64 x75, .int .i64 x76, .int .i64 x77]) (fun x112' H' => x112' = x112 ∧ H' = (SH.setl (SH.setl (SH.upd (SH.upd H78 b79 ⟨[.int .i64 0, .int .i64 0, .int .i64 0, .int .i64 0], 62, false, 4⟩) b81 ⟨[sv Sl.nil, .int .i64 0, .int .i64 0, .int .i64 0], 65, false, 4⟩) (b79, 0) [.int .i64 x69, .int .i64 x70, .int .i64 x71, .int .i64 x72]) (b81, 0) [sv l74, .int .i64 x75, .int .i64 x76, .int .i64 x77])) ∧
                                    ∃ (x114 : Int),
                                    SH.has (SH.setl (SH.setl (SH.upd (SH.upd H78 b79 ⟨[.int .i64 0, .int .i64 0, .int .i64 0, .int .i64 0], 62, false, 4⟩) b81 ⟨[sv Sl.nil, .int .i64 0, .int .i64 0, .int .i64 0], 65, false, 4⟩) (b79, 0) [.int .i64 x69, .int .i64 x70, .int .i64 x71, .int .i64 x72]) (b81, 0) [sv l74, .int .i64 x75, .int .i64 x76, .int .i64 x77]) (b81, 3) (.int .i64 x114) ∧
                                    (x112 ≠ x114 →
                                      ∃ Hr, SH.le Hr (SH.setl (SH.setl (SH.upd (SH.upd H78 b79 ⟨[.int .i64 0, .int .i64 0, .int .i64 0, .int .i64 0], 62, false, 4⟩) b81 ⟨[sv Sl.nil, .int .i64 0, .int .i64 0, .int .i64 0], 65, false, 4⟩) (b79, 0) [.int .i64 x69, .int .i64 x70, .int .i64 x71, .int .i64 x72]) (b81, 0) [sv l74, .int .i64 x75, .int .i64 x76, .int .i64 x77]) ∧ K false Hr
                                    ) ∧ (¬ (x112 ≠ x114) →
                                      ladinglaw06_GapGets.j1 F K s1 x2 x11 x13 l15 x16 e17 (SH.setl (SH.setl (SH.upd (SH.upd H78 b79 ⟨[.int .i64 0, .int .i64 0, .int .i64 0, .int .i64 0], 62, false, 4⟩) b81 ⟨[sv Sl.nil, .int .i64 0, .int .i64 0, .int .i64 0], 65, false, 4⟩) (b79, 0) [.int .i64 x69, .int .i64 x70, .int .i64 x71, .int .i64 x72]) (b81, 0) [sv l74, .int .i64 x75, .int .i64 x76, .int .i64 x77])
                                    )
                                  ) ∧ (¬ (x109 ≠ 0) →
                                    ladinglaw06_GapGets.j1 F K s1 x2 x11 x13 l15 x16 e17 (SH.setl (SH.setl (SH.upd (SH.upd H78 b79 ⟨[.int .i64 0, .int .i64 0, .int .i64 0, .int .i64 0], 62, false, 4⟩) b81 ⟨[sv Sl.nil, .int .i64 0, .int .i64 0, .int .i64 0], 65, false, 4⟩) (b79, 0) [.int .i64 x69, .int .i64 x70, .int .i64 x71, .int .i64 x72]) (b81, 0) [sv l74, .int .i64 x75, .int .i64 x76, .int .i64 x77])
                                  )
                                )
                              )
                            )
                          ) ∧ (¬ (x93 ≠ 0) →
                            ∃ (x124 : Int),
                            SH.has (SH.setl (SH.setl (SH.upd (SH.upd H78 b79 ⟨[.int .i64 0, .int .i64 0, .int .i64 0, .int .i64 0], 62, false, 4⟩) b81 ⟨[sv Sl.nil, .int .i64 0, .int .i64 0, .int .i64 0], 65, false, 4⟩) (b79, 0) [.int .i64 x69, .int .i64 x70, .int .i64 x71, .int .i64 x72]) (b81, 0) [sv l74, .int .i64 x75, .int .i64 x76, .int .i64 x77]) (b81, 1) (.int .i64 x124) ∧
                            (x19 ≠ x124 →
                              ∃ Hr, SH.le Hr (SH.setl (SH.setl (SH.upd (SH.upd H78 b79 ⟨[.int .i64 0, .int .i64 0, .int .i64 0, .int .i64 0], 62, false, 4⟩) b81 ⟨[sv Sl.nil, .int .i64 0, .int .i64 0, .int .i64 0], 65, false, 4⟩) (b79, 0) [.int .i64 x69, .int .i64 x70, .int .i64 x71, .int .i64 x72]) (b81, 0) [sv l74, .int .i64 x75, .int .i64 x76, .int .i64 x77]) ∧ K false Hr
                            ) ∧ (¬ (x19 ≠ x124) →
                              ∃ (x127 : Int),
                              api_Code.wp F e20 (SH.setl (SH.setl (SH.upd (SH.upd H78 b79 ⟨[.int .i64 0, .int .i64 0, .int .i64 0, .int .i64 0], 62, false, 4⟩) b81 ⟨[sv Sl.nil, .int .i64 0, .int .i64 0, .int .i64 0], 65, false, 4⟩) (b79, 0) [.int .i64 x69, .int .i64 x70, .int .i64 x71, .int .i64 x72]) (b81, 0) [sv l74, .int .i64 x75, .int .i64 x76, .int .i64 x77]) (fun x127' H' => x127' = x127 ∧ H' = (SH.setl (SH.setl (SH.upd (SH.upd H78 b79 ⟨[.int .i64 0, .int .i64 0, .int .i64 0, .int .i64 0], 62, false, 4⟩) b81 ⟨[sv Sl.nil, .int .i64 0, .int .i64 0, .int .i64 0], 65, false, 4⟩) (b79, 0) [.int .i64 x69, .int .i64 x70, .int .i64 x71, .int .i64 x72]) (b81, 0) [sv l74, .int .i64 x75, .int .i64 x76, .int .i64 x77])) ∧
                              ∃ (x129 : Int),
                              SH.has (SH.setl (SH.setl (SH.upd (SH.upd H78 b79 ⟨[.int .i64 0, .int .i64 0, .int .i64 0, .int .i64 0], 62, false, 4⟩) b81 ⟨[sv Sl.nil, .int .i64 0, .int .i64 0, .int .i64 0], 65, false, 4⟩) (b79, 0) [.int .i64 x69, .int .i64 x70, .int .i64 x71, .int .i64 x72]) (b81, 0) [sv l74, .int .i64 x75, .int .i64 x76, .int .i64 x77]) (b81, 2) (.int .i64 x129) ∧
                              (x127 ≠ x129 →
                                ∃ Hr, SH.le Hr (SH.setl (SH.setl (SH.upd (SH.upd H78 b79 ⟨[.int .i64 0, .int .i64 0, .int .i64 0, .int .i64 0], 62, false, 4⟩) b81 ⟨[sv Sl.nil, .int .i64 0, .int .i64 0, .int .i64 0], 65, false, 4⟩) (b79, 0) [.int .i64 x69, .int .i64 x70, .int .i64 x71, .int .i64 x72]) (b81, 0) [sv l74, .int .i64 x75, .int .i64 x76, .int .i64 x77]) ∧ K false Hr
                              ) ∧ (¬ (x127 ≠ x129) →
                                ∃ (x132 : Int),
                                SH.has (SH.setl (SH.setl (SH.upd (SH.upd H78 b79 ⟨[.int .i64 0, .int .i64 0, .int .i64 0, .int .i64 0], 62, false, 4⟩) b81 ⟨[sv Sl.nil, .int .i64 0, .int .i64 0, .int .i64 0], 65, false, 4⟩) (b79, 0) [.int .i64 x69, .int .i64 x70, .int .i64 x71, .int .i64 x72]) (b81, 0) [sv l74, .int .i64 x75, .int .i64 x76, .int .i64 x77]) (b81, 2) (.int .i64 x132) ∧
                                (x132 ≠ 0 →
                                  ∃ (x135 : Int),
                                  api_Place.wp F e20 (SH.setl (SH.setl (SH.upd (SH.upd H78 b79 ⟨[.int .i64 0, .int .i64 0, .int .i64 0, .int .i64 0], 62, false, 4⟩) b81 ⟨[sv Sl.nil, .int .i64 0, .int .i64 0, .int .i64 0], 65, false, 4⟩) (b79, 0) [.int .i64 x69, .int .i64 x70, .int .i64 x71, .int .i64 x72]) (b81, 0) [sv l74, .int .i64 x75, .int .i64 x76, .int .i64 x77]) (fun x135' H' => x135' = x135 ∧ H' = (SH.setl (SH.setl (SH.upd (SH.upd H78 b79 ⟨[.int .i64 0, .int .i64 0, .int .i64 0, .int .i64 0], 62, false, 4⟩) b81 ⟨[sv Sl.nil, .int .i64 0, .int .i64 0, .int .i64 0], 65, false, 4⟩) (b79, 0) [.int .i64 x69, .int .i64 x70, .int .i64 x71, .int .i64 x72]) (b81, 0) [sv l74, .int .i64 x75, .int .i64 x76, .int .i64 x77])) ∧
                                  ∃ (x137 : Int),
                                  SH.has (SH.setl (SH.setl (SH.upd (SH.upd H78 b79 ⟨[.int .i64 0, .int .i64 0, .int .i64 0, .int .i64 0], 62, false, 4⟩) b81 ⟨[sv Sl.nil, .int .i64 0, .int .i64 0, .int .i64 0], 65, false, 4⟩) (b79, 0) [.int .i64 x69, .int .i64 x70, .int .i64 x71, .int .i64 x72]) (b81, 0) [sv l74, .int .i64 x75, .int .i64 x76, .int .i64 x77]) (b81, 3) (.int .i64 x137) ∧
                                  (x135 ≠ x137 →
                                    ∃ Hr, SH.le Hr (SH.setl (SH.setl (SH.upd (SH.upd H78 b79 ⟨[.int .i64 0, .int .i64 0, .int .i64 0, .int .i64 0], 62, false, 4⟩) b81 ⟨[sv Sl.nil, .int .i64 0, .int .i64 0, .int .i64 0], 65, false, 4⟩) (b79, 0) [.int .i64 x69, .int .i64 x70, .int .i64 x71, .int .i64 x72]) (b81, 0) [sv l74, .int .i64 x75, .int .i64 x76, .int .i64 x77]) ∧ K false Hr
                                  ) ∧ (¬ (x135 ≠ x137) →
                                    ladinglaw06_GapGets.j1 F K s1 x2 x11 x13 l15 x16 e17 (SH.setl (SH.setl (SH.upd (SH.upd H78 b79 ⟨[.int .i64 0, .int .i64 0, .int .i64 0, .int .i64 0], 62, false, 4⟩) b81 ⟨[sv Sl.nil, .int .i64 0, .int .i64 0, .int .i64 0], 65, false, 4⟩) (b79, 0) [.int .i64 x69, .int .i64 x70, .int .i64 x71, .int .i64 x72]) (b81, 0) [sv l74, .int .i64 x75, .int .i64 x76, .int .i64 x77])
                                  )
                                ) ∧ (¬ (x132 ≠ 0) →
                                  ladinglaw06_GapGets.j1 F K s1 x2 x11 x13 l15 x16 e17 (SH.setl (SH.setl (SH.upd (SH.upd H78 b79 ⟨[.int .i64 0, .int .i64 0, .int .i64 0, .int .i64 0], 62, false, 4⟩) b81 ⟨[sv Sl.nil, .int .i64 0, .int .i64 0, .int .i64 0], 65, false, 4⟩) (b79, 0) [.int .i64 x69, .int .i64 x70, .int .i64 x71, .int .i64 x72]) (b81, 0) [sv l74, .int .i64 x75, .int .i64 x76, .int .i64 x77])
                                )
                              )
                            )
                          )
                        )
                      )
                    )
                  )
                )
              )
            )
          )
        )
      )
    ) ∧ (¬ (q7 = true) →
      ∃ Hr, SH.le Hr H8 ∧ K false Hr
    )
  )
set_option maxHeartbeats 8000000 in
theorem ladinglaw06_GapGets.sound (F : Nat) (s1 : ByteArray) (x2 : Int) (x3 : Int) (x4 : Int) (H : SH) (K : Bool → SH → Prop) (h : ladinglaw06_GapGets.wp F s1 x2 x3 x4 H K) : SCalls Tryd.prog 7 #[.string s1, .int .i64 x2, .agg #[.int .i64 x3, .int .i64 x4]] H (fun v H' => ∃ (q186 : Bool), v = .bool q186 ∧ K q186 H') := by
  unfold ladinglaw06_GapGets.wp at h
  refine SCalls.body Tryd.func7 rfl (Nat.le_of_ble_eq_true rfl) ?_
  refine SW.seq ?_
  refine SW.region ?_
  refine SOps.box rfl rfl (wantN rfl) (v := .agg #[.int .i64 x3, .int .i64 x4]) rfl (fun b5 c6 => ?_)
  replace h := h b5 c6
  refine SOps.val (v := .bool false) rfl (wantN rfl) (fun _ => by kernel_rfl) ?_
  refine SOps.nil ?_
  refine SW.seq ?_
  refine SW.seq ?_
  refine SW.region ?_
  refine SOps.enter rfl (wantN rfl) (fun _ => by kernel_rfl) (ladinglaw06_awake.sound F  (SH.upd H b5 ⟨[.int .i64 x3, .int .i64 x4], 55, false, 2⟩) _ h) ?_
  clear h
  rintro v H8 ⟨q7, rfl, h⟩
  refine SOps.val (v := .bool !q7) rfl (wantN rfl) (fun _ => by kernel_rfl) ?_
  refine SOps.nil ?_
  by_cases c9 : q7 = true
  · replace h := h.1 c9
    have dc9 : q7 = true := c9
    refine SW.cond_f (t := !q7) rfl (not_t dc9) ?_
    refine SW.skip ?_
    refine SW.seq ?_
    refine SW.seq ?_
    refine SW.region ?_
    refine SOps.val (v := .string s1) rfl (wantN rfl) (fun _ => by kernel_rfl) ?_
    refine SOps.val (v := .int .i64 (s1.size : Int)) rfl (wantN rfl) (fun _ => by kernel_rfl) ?_
    refine SOps.val (v := .bool (decide ((s1.size : Int) > 300))) rfl (wantN rfl) (fun _ => by kernel_rfl) ?_
    refine SOps.nil ?_
    by_cases c10 : (s1.size : Int) > 300
    · replace h := h.1 c10
      have dc10 : (decide ((s1.size : Int) > 300)) = true := (decide_eq_true c10)
      refine SW.cond_t (t := decide ((s1.size : Int) > 300)) rfl dc10 ?_
      refine SW.seq ?_
      refine SW.region ?_
      refine SOps.val (v := .bool true) rfl (wantN rfl) (fun _ => by kernel_rfl) ?_
      refine SOps.nil ?_
      obtain ⟨Hr, hr, h⟩ := h
      exact SW.ret (retQ.mk (.bool true) (res1 rfl rfl) hr ⟨true, rfl, h⟩)
    · replace h := h.2 c10
      have dc10 : (decide ((s1.size : Int) > 300)) = false := (decide_eq_false c10)
      refine SW.cond_f (t := decide ((s1.size : Int) > 300)) rfl dc10 ?_
      refine SW.skip ?_
      refine SW.seq ?_
      refine SW.draw (by kernel_rfl) (by kernel_rfl) ?_
      refine SQ.val (v := pv (some (b5, 0))) rfl (wantN rfl) (fun _ => by kernel_rfl) ?_
      obtain ⟨x11, c12, h⟩ := h
      refine SQ.rd (v := .int .i64 x11) rfl (wantN rfl) (fun w hw => ev_load1 rfl (fun _ => by kernel_rfl) (p := (b5, 0)) rfl c12 w hw) ?_
      refine SQ.val (v := pv (some (b5, 1))) rfl (wantN rfl) (fun _ => by kernel_rfl) ?_
      obtain ⟨x13, c14, h⟩ := h
      refine SQ.rd (v := .int .i64 x13) rfl (wantN rfl) (fun w hw => ev_load1 rfl (fun _ => by kernel_rfl) (p := (b5, 1)) rfl c14 w hw) ?_
      refine SQ.val (v := .int .i64 x11) rfl (wantN rfl) (fun _ => by kernel_rfl) ?_
      refine SQ.val (v := .int .i64 x13) rfl (wantN rfl) (fun _ => by kernel_rfl) ?_
      refine SQ.nil ?_
      refine SW.seq ?_
      refine SW.region ?_
      refine SOps.val (v := .string s1) rfl (wantN rfl) (fun _ => by kernel_rfl) ?_
      refine SOps.val (v := .int .i64 x2) rfl (wantN rfl) (fun _ => by kernel_rfl) ?_
      refine SOps.val (v := .int .i64 x11) rfl (wantN rfl) (fun _ => by kernel_rfl) ?_
      refine SOps.val (v := .int .i64 x13) rfl (wantN rfl) (fun _ => by kernel_rfl) ?_
      refine SOps.enter rfl (wantN rfl) (fun _ => by kernel_rfl) (gap_Get.sound F s1 x2 x11 x13 H8 _ h) ?_
      clear h
      rintro v H18 ⟨l15, x16, e17, rfl, h⟩
      refine SOps.val (v := .tuple #[sv l15, .int .i64 x16, errV e17]) rfl (wantN rfl) (fun _ => by kernel_rfl) ?_
      refine SOps.val (v := sv l15) rfl (wantN rfl) (fun _ => by kernel_rfl) ?_
      refine SOps.val (v := .int .i64 x16) rfl (wantN rfl) (fun _ => by kernel_rfl) ?_
      refine SOps.val (v := errV e17) rfl (wantN rfl) (fun _ => by kernel_rfl) ?_
      refine SOps.val (v := sv l15) rfl (wantN rfl) (fun _ => by kernel_rfl) ?_
      refine SOps.val (v := .int .i64 x16) rfl (wantN rfl) (fun _ => by kernel_rfl) ?_
      refine SOps.val (v := errV e17) rfl (wantN rfl) (fun _ => by kernel_rfl) ?_
      refine SOps.nil ?_
      refine SW.seq ?_
      refine SW.region ?_
      refine SOps.val (v := .string s1) rfl (wantN rfl) (fun _ => by kernel_rfl) ?_
      refine SOps.val (v := .int .i64 x2) rfl (wantN rfl) (fun _ => by kernel_rfl) ?_
      refine SOps.val (v := .int .i64 x11) rfl (wantN rfl) (fun _ => by kernel_rfl) ?_
      refine SOps.enter rfl (wantN rfl) (fun _ => by kernel_rfl) (gap_Skip.sound F s1 x2 x11 H18 _ h) ?_
      clear h
      rintro v H21 ⟨x19, e20, rfl, h⟩
      refine SOps.val (v := .tuple #[.int .i64 x19, errV e20]) rfl (wantN rfl) (fun _ => by kernel_rfl) ?_
      refine SOps.val (v := .int .i64 x19) rfl (wantN rfl) (fun _ => by kernel_rfl) ?_
      refine SOps.val (v := errV e20) rfl (wantN rfl) (fun _ => by kernel_rfl) ?_
      refine SOps.val (v := .int .i64 x19) rfl (wantN rfl) (fun _ => by kernel_rfl) ?_
      refine SOps.val (v := errV e20) rfl (wantN rfl) (fun _ => by kernel_rfl) ?_
      refine SOps.nil ?_
      refine SW.seq ?_
      refine SW.region ?_
      refine SOps.val (v := .string s1) rfl (wantN rfl) (fun _ => by kernel_rfl) ?_
      refine SOps.val (v := .int .i64 x2) rfl (wantN rfl) (fun _ => by kernel_rfl) ?_
      refine SOps.val (v := .int .i64 x11) rfl (wantN rfl) (fun _ => by kernel_rfl) ?_
      refine SOps.enter rfl (wantN rfl) (fun _ => by kernel_rfl) (gap_Count.sound F s1 x2 x11 H21 _ h) ?_
      clear h
      rintro v H24 ⟨x22, e23, rfl, h⟩
      refine SOps.val (v := .tuple #[.int .i64 x22, errV e23]) rfl (wantN rfl) (fun _ => by kernel_rfl) ?_
      refine SOps.val (v := .int .i64 x22) rfl (wantN rfl) (fun _ => by kernel_rfl) ?_
      refine SOps.val (v := errV e23) rfl (wantN rfl) (fun _ => by kernel_rfl) ?_
      refine SOps.val (v := .int .i64 x22) rfl (wantN rfl) (fun _ => by kernel_rfl) ?_
      refine SOps.val (v := errV e23) rfl (wantN rfl) (fun _ => by kernel_rfl) ?_
      refine SOps.nil ?_
      refine SW.seq ?_
      refine SW.seq ?_
      refine SW.region ?_
      refine SOps.val (v := .int .i64 x11) rfl (wantN rfl) (fun _ => by kernel_rfl) ?_
      refine SOps.val (v := .bool (decide (x11 < 0))) rfl (wantN rfl) (fun _ => by kernel_rfl) ?_
      refine SOps.val (v := .bool (decide (x11 < 0))) rfl (wantN rfl) (fun _ => by kernel_rfl) ?_
      by_cases c25 : x11 < 0
      · replace h := h.1 c25
        have dc25 : (decide (x11 < 0)) = true := (decide_eq_true c25)
        refine SOps.off rfl (wantX (c := decide (x11 < 0)) rfl rfl rfl dc25) ?_
        refine SOps.off rfl (wantX (c := decide (x11 < 0)) rfl rfl rfl dc25) ?_
        refine SOps.val (v := .bool true) rfl (wantN rfl) (fun w => ev_pickT (v := .bool true) rfl (t := decide (x11 < 0)) rfl dc25 rfl w) ?_
        refine SOps.nil ?_
        refine SW.cond_t (t := true) rfl rfl ?_
        refine SW.seq ?_
        refine SW.region ?_
        refine SOps.val (v := sv l15) rfl (wantN rfl) (fun _ => by kernel_rfl) ?_
        refine SOps.val (v := .int .i64 (l15.len : Int)) rfl (wantN rfl) (fun _ => by kernel_rfl) ?_
        refine SOps.val (v := .bool ((l15.len : Int) == 0)) rfl (wantN rfl) (fun _ => by kernel_rfl) ?_
        refine SOps.val (v := .bool ((l15.len : Int) == 0)) rfl (wantN rfl) (fun _ => by kernel_rfl) ?_
        by_cases c26 : (l15.len : Int) = 0
        · replace h := h.1 c26
          have dc26 : ((l15.len : Int) == 0) = true := (beq_iff_eq.mpr c26)
          refine SOps.val (v := .int .i64 x16) rfl (wantY (c := ((l15.len : Int) == 0)) rfl rfl rfl dc26) (fun _ => by kernel_rfl) ?_
          refine SOps.val (v := .int .i64 x2) rfl (wantY (c := ((l15.len : Int) == 0)) rfl rfl rfl dc26) (fun _ => by kernel_rfl) ?_
          refine SOps.val (v := .bool (x16 == x2)) rfl (wantY (c := ((l15.len : Int) == 0)) rfl rfl rfl dc26) (fun _ => by kernel_rfl) ?_
          refine SOps.val (v := .bool (x16 == x2)) rfl (wantN rfl) (fun w => ev_pickT (v := .bool (x16 == x2)) rfl (t := ((l15.len : Int) == 0)) rfl dc26 rfl w) ?_
          refine SOps.val (v := .bool (x16 == x2)) rfl (wantN rfl) (fun _ => by kernel_rfl) ?_
          by_cases c27 : x16 = x2
          · replace h := h.1 c27
            have dc27 : (x16 == x2) = true := (beq_iff_eq.mpr c27)
            refine SOps.val (v := .int .i64 x19) rfl (wantY (c := (x16 == x2)) rfl rfl rfl dc27) (fun _ => by kernel_rfl) ?_
            refine SOps.val (v := .int .i64 x2) rfl (wantY (c := (x16 == x2)) rfl rfl rfl dc27) (fun _ => by kernel_rfl) ?_
            refine SOps.val (v := .bool (x19 == x2)) rfl (wantY (c := (x16 == x2)) rfl rfl rfl dc27) (fun _ => by kernel_rfl) ?_
            refine SOps.val (v := .bool (x19 == x2)) rfl (wantN rfl) (fun w => ev_pickT (v := .bool (x19 == x2)) rfl (t := (x16 == x2)) rfl dc27 rfl w) ?_
            refine SOps.val (v := .bool (x19 == x2)) rfl (wantN rfl) (fun _ => by kernel_rfl) ?_
            by_cases c28 : x19 = x2
            · replace h := h.1 c28
              have dc28 : (x19 == x2) = true := (beq_iff_eq.mpr c28)
              refine SOps.val (v := .int .i64 x22) rfl (wantY (c := (x19 == x2)) rfl rfl rfl dc28) (fun _ => by kernel_rfl) ?_
              refine SOps.val (v := .bool (x22 == 0)) rfl (wantY (c := (x19 == x2)) rfl rfl rfl dc28) (fun _ => by kernel_rfl) ?_
              refine SOps.val (v := .bool (x22 == 0)) rfl (wantN rfl) (fun w => ev_pickT (v := .bool (x22 == 0)) rfl (t := (x19 == x2)) rfl dc28 rfl w) ?_
              refine SOps.val (v := .bool (x22 == 0)) rfl (wantN rfl) (fun _ => by kernel_rfl) ?_
              by_cases c29 : x22 = 0
              · replace h := h.1 c29
                have dc29 : (x22 == 0) = true := (beq_iff_eq.mpr c29)
                refine SOps.val (v := errV e17) rfl (wantY (c := (x22 == 0)) rfl rfl rfl dc29) (fun _ => by kernel_rfl) ?_
                refine SOps.enter rfl (wantY (c := (x22 == 0)) rfl rfl rfl dc29) (fun _ => by kernel_rfl) (api_Code.sound F e17 H24 _ h) ?_
                clear h
                rintro v H31 ⟨x30, rfl, h⟩
                refine SOps.val (v := .bool (x30 == 1)) rfl (wantY (c := (x22 == 0)) rfl rfl rfl dc29) (fun _ => by kernel_rfl) ?_
                refine SOps.val (v := .bool (x30 == 1)) rfl (wantN rfl) (fun w => ev_pickT (v := .bool (x30 == 1)) rfl (t := (x22 == 0)) rfl dc29 rfl w) ?_
                refine SOps.val (v := .bool (x30 == 1)) rfl (wantN rfl) (fun _ => by kernel_rfl) ?_
                by_cases c32 : x30 = 1
                · replace h := h.1 c32
                  have dc32 : (x30 == 1) = true := (beq_iff_eq.mpr c32)
                  refine SOps.val (v := errV e17) rfl (wantY (c := (x30 == 1)) rfl rfl rfl dc32) (fun _ => by kernel_rfl) ?_
                  refine SOps.enter rfl (wantY (c := (x30 == 1)) rfl rfl rfl dc32) (fun _ => by kernel_rfl) (api_Place.sound F e17 H31 _ h) ?_
                  clear h
                  rintro v H34 ⟨x33, rfl, h⟩
                  refine SOps.val (v := .int .i64 x2) rfl (wantY (c := (x30 == 1)) rfl rfl rfl dc32) (fun _ => by kernel_rfl) ?_
                  refine SOps.val (v := .bool (x33 == x2)) rfl (wantY (c := (x30 == 1)) rfl rfl rfl dc32) (fun _ => by kernel_rfl) ?_
                  refine SOps.val (v := .bool (x33 == x2)) rfl (wantN rfl) (fun w => ev_pickT (v := .bool (x33 == x2)) rfl (t := (x30 == 1)) rfl dc32 rfl w) ?_
                  refine SOps.val (v := .bool (x33 == x2)) rfl (wantN rfl) (fun _ => by kernel_rfl) ?_
                  by_cases c35 : x33 = x2
                  · replace h := h.1 c35
                    have dc35 : (x33 == x2) = true := (beq_iff_eq.mpr c35)
                    refine SOps.val (v := errV e20) rfl (wantY (c := (x33 == x2)) rfl rfl rfl dc35) (fun _ => by kernel_rfl) ?_
                    refine SOps.enter rfl (wantY (c := (x33 == x2)) rfl rfl rfl dc35) (fun _ => by kernel_rfl) (api_Code.sound F e20 H34 _ h) ?_
                    clear h
                    rintro v H37 ⟨x36, rfl, h⟩
                    refine SOps.val (v := .bool (x36 == 1)) rfl (wantY (c := (x33 == x2)) rfl rfl rfl dc35) (fun _ => by kernel_rfl) ?_
                    refine SOps.val (v := .bool (x36 == 1)) rfl (wantN rfl) (fun w => ev_pickT (v := .bool (x36 == 1)) rfl (t := (x33 == x2)) rfl dc35 rfl w) ?_
                    refine SOps.val (v := .bool (x36 == 1)) rfl (wantN rfl) (fun _ => by kernel_rfl) ?_
                    by_cases c38 : x36 = 1
                    · replace h := h.1 c38
                      have dc38 : (x36 == 1) = true := (beq_iff_eq.mpr c38)
                      refine SOps.val (v := errV e20) rfl (wantY (c := (x36 == 1)) rfl rfl rfl dc38) (fun _ => by kernel_rfl) ?_
                      refine SOps.enter rfl (wantY (c := (x36 == 1)) rfl rfl rfl dc38) (fun _ => by kernel_rfl) (api_Place.sound F e20 H37 _ h) ?_
                      clear h
                      rintro v H40 ⟨x39, rfl, h⟩
                      refine SOps.val (v := .int .i64 x2) rfl (wantY (c := (x36 == 1)) rfl rfl rfl dc38) (fun _ => by kernel_rfl) ?_
                      refine SOps.val (v := .bool (x39 == x2)) rfl (wantY (c := (x36 == 1)) rfl rfl rfl dc38) (fun _ => by kernel_rfl) ?_
                      refine SOps.val (v := .bool (x39 == x2)) rfl (wantN rfl) (fun w => ev_pickT (v := .bool (x39 == x2)) rfl (t := (x36 == 1)) rfl dc38 rfl w) ?_
                      refine SOps.val (v := .bool (x39 == x2)) rfl (wantN rfl) (fun _ => by kernel_rfl) ?_
                      by_cases c41 : x39 = x2
                      · replace h := h.1 c41
                        have dc41 : (x39 == x2) = true := (beq_iff_eq.mpr c41)
                        refine SOps.val (v := errV e23) rfl (wantY (c := (x39 == x2)) rfl rfl rfl dc41) (fun _ => by kernel_rfl) ?_
                        refine SOps.enter rfl (wantY (c := (x39 == x2)) rfl rfl rfl dc41) (fun _ => by kernel_rfl) (api_Code.sound F e23 H40 _ h) ?_
                        clear h
                        rintro v H43 ⟨x42, rfl, h⟩
                        refine SOps.val (v := .bool (x42 == 1)) rfl (wantY (c := (x39 == x2)) rfl rfl rfl dc41) (fun _ => by kernel_rfl) ?_
                        refine SOps.val (v := .bool (x42 == 1)) rfl (wantN rfl) (fun w => ev_pickT (v := .bool (x42 == 1)) rfl (t := (x39 == x2)) rfl dc41 rfl w) ?_
                        refine SOps.val (v := .bool (x42 == 1)) rfl (wantN rfl) (fun _ => by kernel_rfl) ?_
                        by_cases c44 : x42 = 1
                        · replace h := h.1 c44
                          have dc44 : (x42 == 1) = true := (beq_iff_eq.mpr c44)
                          refine SOps.val (v := errV e23) rfl (wantY (c := (x42 == 1)) rfl rfl rfl dc44) (fun _ => by kernel_rfl) ?_
                          refine SOps.enter rfl (wantY (c := (x42 == 1)) rfl rfl rfl dc44) (fun _ => by kernel_rfl) (api_Place.sound F e23 H43 _ h) ?_
                          clear h
                          rintro v H46 ⟨x45, rfl, h⟩
                          refine SOps.val (v := .int .i64 x2) rfl (wantY (c := (x42 == 1)) rfl rfl rfl dc44) (fun _ => by kernel_rfl) ?_
                          refine SOps.val (v := .bool (x45 == x2)) rfl (wantY (c := (x42 == 1)) rfl rfl rfl dc44) (fun _ => by kernel_rfl) ?_
                          refine SOps.val (v := .bool (x45 == x2)) rfl (wantN rfl) (fun w => ev_pickT (v := .bool (x45 == x2)) rfl (t := (x42 == 1)) rfl dc44 rfl w) ?_
                          refine SOps.val (v := .bool (x45 == x2)) rfl (wantN rfl) (fun _ => by kernel_rfl) ?_
                          refine SOps.nil ?_
                          obtain ⟨Hr, hr, h⟩ := h
                          exact SW.ret (retQ.mk (.bool (x45 == x2)) (res1 rfl rfl) hr ⟨(x45 == x2), rfl, h⟩)
                        · replace h := h.2 c44
                          have dc44 : (x42 == 1) = false := (beq_eq_false_iff_ne.mpr c44)
                          refine SOps.off rfl (wantX (c := (x42 == 1)) rfl rfl rfl dc44) ?_
                          refine SOps.off rfl (wantX (c := (x42 == 1)) rfl rfl rfl dc44) ?_
                          refine SOps.off rfl (wantX (c := (x42 == 1)) rfl rfl rfl dc44) ?_
                          refine SOps.off rfl (wantX (c := (x42 == 1)) rfl rfl rfl dc44) ?_
                          refine SOps.val (v := .bool false) rfl (wantN rfl) (fun w => ev_pickF (v := .bool false) rfl (t := (x42 == 1)) rfl dc44 rfl w) ?_
                          refine SOps.val (v := .bool false) rfl (wantN rfl) (fun _ => by kernel_rfl) ?_
                          refine SOps.nil ?_
                          obtain ⟨Hr, hr, h⟩ := h
                          exact SW.ret (retQ.mk (.bool false) (res1 rfl rfl) hr ⟨false, rfl, h⟩)
                      · replace h := h.2 c41
                        have dc41 : (x39 == x2) = false := (beq_eq_false_iff_ne.mpr c41)
                        refine SOps.off rfl (wantX (c := (x39 == x2)) rfl rfl rfl dc41) ?_
                        refine SOps.off rfl (wantX (c := (x39 == x2)) rfl rfl rfl dc41) ?_
                        refine SOps.off rfl (wantX (c := (x39 == x2)) rfl rfl rfl dc41) ?_
                        refine SOps.val (v := .bool false) rfl (wantN rfl) (fun w => ev_pickF (v := .bool false) rfl (t := (x39 == x2)) rfl dc41 rfl w) ?_
                        refine SOps.val (v := .bool false) rfl (wantN rfl) (fun _ => by kernel_rfl) ?_
                        refine SOps.off rfl (wantX (c := false) rfl rfl rfl rfl) ?_
                        refine SOps.off rfl (wantX (c := false) rfl rfl rfl rfl) ?_
                        refine SOps.off rfl (wantX (c := false) rfl rfl rfl rfl) ?_
                        refine SOps.off rfl (wantX (c := false) rfl rfl rfl rfl) ?_
                        refine SOps.val (v := .bool false) rfl (wantN rfl) (fun w => ev_pickF (v := .bool false) rfl (t := false) rfl rfl rfl w) ?_
                        refine SOps.val (v := .bool false) rfl (wantN rfl) (fun _ => by kernel_rfl) ?_
                        refine SOps.nil ?_
                        obtain ⟨Hr, hr, h⟩ := h
                        exact SW.ret (retQ.mk (.bool false) (res1 rfl rfl) hr ⟨false, rfl, h⟩)
                    · replace h := h.2 c38
                      have dc38 : (x36 == 1) = false := (beq_eq_false_iff_ne.mpr c38)
                      refine SOps.off rfl (wantX (c := (x36 == 1)) rfl rfl rfl dc38) ?_
                      refine SOps.off rfl (wantX (c := (x36 == 1)) rfl rfl rfl dc38) ?_
                      refine SOps.off rfl (wantX (c := (x36 == 1)) rfl rfl rfl dc38) ?_
                      refine SOps.off rfl (wantX (c := (x36 == 1)) rfl rfl rfl dc38) ?_
                      refine SOps.val (v := .bool false) rfl (wantN rfl) (fun w => ev_pickF (v := .bool false) rfl (t := (x36 == 1)) rfl dc38 rfl w) ?_
                      refine SOps.val (v := .bool false) rfl (wantN rfl) (fun _ => by kernel_rfl) ?_
                      refine SOps.off rfl (wantX (c := false) rfl rfl rfl rfl) ?_
                      refine SOps.off rfl (wantX (c := false) rfl rfl rfl rfl) ?_
                      refine SOps.off rfl (wantX (c := false) rfl rfl rfl rfl) ?_
                      refine SOps.val (v := .bool false) rfl (wantN rfl) (fun w => ev_pickF (v := .bool false) rfl (t := false) rfl rfl rfl w) ?_
                      refine SOps.val (v := .bool false) rfl (wantN rfl) (fun _ => by kernel_rfl) ?_
                      refine SOps.off rfl (wantX (c := false) rfl rfl rfl rfl) ?_
                      refine SOps.off rfl (wantX (c := false) rfl rfl rfl rfl) ?_
                      refine SOps.off rfl (wantX (c := false) rfl rfl rfl rfl) ?_
                      refine SOps.off rfl (wantX (c := false) rfl rfl rfl rfl) ?_
                      refine SOps.val (v := .bool false) rfl (wantN rfl) (fun w => ev_pickF (v := .bool false) rfl (t := false) rfl rfl rfl w) ?_
                      refine SOps.val (v := .bool false) rfl (wantN rfl) (fun _ => by kernel_rfl) ?_
                      refine SOps.nil ?_
                      obtain ⟨Hr, hr, h⟩ := h
                      exact SW.ret (retQ.mk (.bool false) (res1 rfl rfl) hr ⟨false, rfl, h⟩)
                  · replace h := h.2 c35
                    have dc35 : (x33 == x2) = false := (beq_eq_false_iff_ne.mpr c35)
                    refine SOps.off rfl (wantX (c := (x33 == x2)) rfl rfl rfl dc35) ?_
                    refine SOps.off rfl (wantX (c := (x33 == x2)) rfl rfl rfl dc35) ?_
                    refine SOps.off rfl (wantX (c := (x33 == x2)) rfl rfl rfl dc35) ?_
                    refine SOps.val (v := .bool false) rfl (wantN rfl) (fun w => ev_pickF (v := .bool false) rfl (t := (x33 == x2)) rfl dc35 rfl w) ?_
                    refine SOps.val (v := .bool false) rfl (wantN rfl) (fun _ => by kernel_rfl) ?_
                    refine SOps.off rfl (wantX (c := false) rfl rfl rfl rfl) ?_
                    refine SOps.off rfl (wantX (c := false) rfl rfl rfl rfl) ?_
                    refine SOps.off rfl (wantX (c := false) rfl rfl rfl rfl) ?_
                    refine SOps.off rfl (wantX (c := false) rfl rfl rfl rfl) ?_
                    refine SOps.val (v := .bool false) rfl (wantN rfl) (fun w => ev_pickF (v := .bool false) rfl (t := false) rfl rfl rfl w) ?_
                    refine SOps.val (v := .bool false) rfl (wantN rfl) (fun _ => by kernel_rfl) ?_
                    refine SOps.off rfl (wantX (c := false) rfl rfl rfl rfl) ?_
                    refine SOps.off rfl (wantX (c := false) rfl rfl rfl rfl) ?_
                    refine SOps.off rfl (wantX (c := false) rfl rfl rfl rfl) ?_
                    refine SOps.val (v := .bool false) rfl (wantN rfl) (fun w => ev_pickF (v := .bool false) rfl (t := false) rfl rfl rfl w) ?_
                    refine SOps.val (v := .bool false) rfl (wantN rfl) (fun _ => by kernel_rfl) ?_
                    refine SOps.off rfl (wantX (c := false) rfl rfl rfl rfl) ?_
                    refine SOps.off rfl (wantX (c := false) rfl rfl rfl rfl) ?_
                    refine SOps.off rfl (wantX (c := false) rfl rfl rfl rfl) ?_
                    refine SOps.off rfl (wantX (c := false) rfl rfl rfl rfl) ?_
                    refine SOps.val (v := .bool false) rfl (wantN rfl) (fun w => ev_pickF (v := .bool false) rfl (t := false) rfl rfl rfl w) ?_
                    refine SOps.val (v := .bool false) rfl (wantN rfl) (fun _ => by kernel_rfl) ?_
                    refine SOps.nil ?_
                    obtain ⟨Hr, hr, h⟩ := h
                    exact SW.ret (retQ.mk (.bool false) (res1 rfl rfl) hr ⟨false, rfl, h⟩)
                · replace h := h.2 c32
                  have dc32 : (x30 == 1) = false := (beq_eq_false_iff_ne.mpr c32)
                  refine SOps.off rfl (wantX (c := (x30 == 1)) rfl rfl rfl dc32) ?_
                  refine SOps.off rfl (wantX (c := (x30 == 1)) rfl rfl rfl dc32) ?_
                  refine SOps.off rfl (wantX (c := (x30 == 1)) rfl rfl rfl dc32) ?_
                  refine SOps.off rfl (wantX (c := (x30 == 1)) rfl rfl rfl dc32) ?_
                  refine SOps.val (v := .bool false) rfl (wantN rfl) (fun w => ev_pickF (v := .bool false) rfl (t := (x30 == 1)) rfl dc32 rfl w) ?_
                  refine SOps.val (v := .bool false) rfl (wantN rfl) (fun _ => by kernel_rfl) ?_
                  refine SOps.off rfl (wantX (c := false) rfl rfl rfl rfl) ?_
                  refine SOps.off rfl (wantX (c := false) rfl rfl rfl rfl) ?_
                  refine SOps.off rfl (wantX (c := false) rfl rfl rfl rfl) ?_
                  refine SOps.val (v := .bool false) rfl (wantN rfl) (fun w => ev_pickF (v := .bool false) rfl (t := false) rfl rfl rfl w) ?_
                  refine SOps.val (v := .bool false) rfl (wantN rfl) (fun _ => by kernel_rfl) ?_
                  refine SOps.off rfl (wantX (c := false) rfl rfl rfl rfl) ?_
                  refine SOps.off rfl (wantX (c := false) rfl rfl rfl rfl) ?_
                  refine SOps.off rfl (wantX (c := false) rfl rfl rfl rfl) ?_
                  refine SOps.off rfl (wantX (c := false) rfl rfl rfl rfl) ?_
                  refine SOps.val (v := .bool false) rfl (wantN rfl) (fun w => ev_pickF (v := .bool false) rfl (t := false) rfl rfl rfl w) ?_
                  refine SOps.val (v := .bool false) rfl (wantN rfl) (fun _ => by kernel_rfl) ?_
                  refine SOps.off rfl (wantX (c := false) rfl rfl rfl rfl) ?_
                  refine SOps.off rfl (wantX (c := false) rfl rfl rfl rfl) ?_
                  refine SOps.off rfl (wantX (c := false) rfl rfl rfl rfl) ?_
                  refine SOps.val (v := .bool false) rfl (wantN rfl) (fun w => ev_pickF (v := .bool false) rfl (t := false) rfl rfl rfl w) ?_
                  refine SOps.val (v := .bool false) rfl (wantN rfl) (fun _ => by kernel_rfl) ?_
                  refine SOps.off rfl (wantX (c := false) rfl rfl rfl rfl) ?_
                  refine SOps.off rfl (wantX (c := false) rfl rfl rfl rfl) ?_
                  refine SOps.off rfl (wantX (c := false) rfl rfl rfl rfl) ?_
                  refine SOps.off rfl (wantX (c := false) rfl rfl rfl rfl) ?_
                  refine SOps.val (v := .bool false) rfl (wantN rfl) (fun w => ev_pickF (v := .bool false) rfl (t := false) rfl rfl rfl w) ?_
                  refine SOps.val (v := .bool false) rfl (wantN rfl) (fun _ => by kernel_rfl) ?_
                  refine SOps.nil ?_
                  obtain ⟨Hr, hr, h⟩ := h
                  exact SW.ret (retQ.mk (.bool false) (res1 rfl rfl) hr ⟨false, rfl, h⟩)
              · replace h := h.2 c29
                have dc29 : (x22 == 0) = false := (beq_eq_false_iff_ne.mpr c29)
                refine SOps.off rfl (wantX (c := (x22 == 0)) rfl rfl rfl dc29) ?_
                refine SOps.off rfl (wantX (c := (x22 == 0)) rfl rfl rfl dc29) ?_
                refine SOps.off rfl (wantX (c := (x22 == 0)) rfl rfl rfl dc29) ?_
                refine SOps.val (v := .bool false) rfl (wantN rfl) (fun w => ev_pickF (v := .bool false) rfl (t := (x22 == 0)) rfl dc29 rfl w) ?_
                refine SOps.val (v := .bool false) rfl (wantN rfl) (fun _ => by kernel_rfl) ?_
                refine SOps.off rfl (wantX (c := false) rfl rfl rfl rfl) ?_
                refine SOps.off rfl (wantX (c := false) rfl rfl rfl rfl) ?_
                refine SOps.off rfl (wantX (c := false) rfl rfl rfl rfl) ?_
                refine SOps.off rfl (wantX (c := false) rfl rfl rfl rfl) ?_
                refine SOps.val (v := .bool false) rfl (wantN rfl) (fun w => ev_pickF (v := .bool false) rfl (t := false) rfl rfl rfl w) ?_
                refine SOps.val (v := .bool false) rfl (wantN rfl) (fun _ => by kernel_rfl) ?_
                refine SOps.off rfl (wantX (c := false) rfl rfl rfl rfl) ?_
                refine SOps.off rfl (wantX (c := false) rfl rfl rfl rfl) ?_
                refine SOps.off rfl (wantX (c := false) rfl rfl rfl rfl) ?_
                refine SOps.val (v := .bool false) rfl (wantN rfl) (fun w => ev_pickF (v := .bool false) rfl (t := false) rfl rfl rfl w) ?_
                refine SOps.val (v := .bool false) rfl (wantN rfl) (fun _ => by kernel_rfl) ?_
                refine SOps.off rfl (wantX (c := false) rfl rfl rfl rfl) ?_
                refine SOps.off rfl (wantX (c := false) rfl rfl rfl rfl) ?_
                refine SOps.off rfl (wantX (c := false) rfl rfl rfl rfl) ?_
                refine SOps.off rfl (wantX (c := false) rfl rfl rfl rfl) ?_
                refine SOps.val (v := .bool false) rfl (wantN rfl) (fun w => ev_pickF (v := .bool false) rfl (t := false) rfl rfl rfl w) ?_
                refine SOps.val (v := .bool false) rfl (wantN rfl) (fun _ => by kernel_rfl) ?_
                refine SOps.off rfl (wantX (c := false) rfl rfl rfl rfl) ?_
                refine SOps.off rfl (wantX (c := false) rfl rfl rfl rfl) ?_
                refine SOps.off rfl (wantX (c := false) rfl rfl rfl rfl) ?_
                refine SOps.val (v := .bool false) rfl (wantN rfl) (fun w => ev_pickF (v := .bool false) rfl (t := false) rfl rfl rfl w) ?_
                refine SOps.val (v := .bool false) rfl (wantN rfl) (fun _ => by kernel_rfl) ?_
                refine SOps.off rfl (wantX (c := false) rfl rfl rfl rfl) ?_
                refine SOps.off rfl (wantX (c := false) rfl rfl rfl rfl) ?_
                refine SOps.off rfl (wantX (c := false) rfl rfl rfl rfl) ?_
                refine SOps.off rfl (wantX (c := false) rfl rfl rfl rfl) ?_
                refine SOps.val (v := .bool false) rfl (wantN rfl) (fun w => ev_pickF (v := .bool false) rfl (t := false) rfl rfl rfl w) ?_
                refine SOps.val (v := .bool false) rfl (wantN rfl) (fun _ => by kernel_rfl) ?_
                refine SOps.nil ?_
                obtain ⟨Hr, hr, h⟩ := h
                exact SW.ret (retQ.mk (.bool false) (res1 rfl rfl) hr ⟨false, rfl, h⟩)
            · replace h := h.2 c28
              have dc28 : (x19 == x2) = false := (beq_eq_false_iff_ne.mpr c28)
              refine SOps.off rfl (wantX (c := (x19 == x2)) rfl rfl rfl dc28) ?_
              refine SOps.off rfl (wantX (c := (x19 == x2)) rfl rfl rfl dc28) ?_
              refine SOps.val (v := .bool false) rfl (wantN rfl) (fun w => ev_pickF (v := .bool false) rfl (t := (x19 == x2)) rfl dc28 rfl w) ?_
              refine SOps.val (v := .bool false) rfl (wantN rfl) (fun _ => by kernel_rfl) ?_
              refine SOps.off rfl (wantX (c := false) rfl rfl rfl rfl) ?_
              refine SOps.off rfl (wantX (c := false) rfl rfl rfl rfl) ?_
              refine SOps.off rfl (wantX (c := false) rfl rfl rfl rfl) ?_
              refine SOps.val (v := .bool false) rfl (wantN rfl) (fun w => ev_pickF (v := .bool false) rfl (t := false) rfl rfl rfl w) ?_
              refine SOps.val (v := .bool false) rfl (wantN rfl) (fun _ => by kernel_rfl) ?_
              refine SOps.off rfl (wantX (c := false) rfl rfl rfl rfl) ?_
              refine SOps.off rfl (wantX (c := false) rfl rfl rfl rfl) ?_
              refine SOps.off rfl (wantX (c := false) rfl rfl rfl rfl) ?_
              refine SOps.off rfl (wantX (c := false) rfl rfl rfl rfl) ?_
              refine SOps.val (v := .bool false) rfl (wantN rfl) (fun w => ev_pickF (v := .bool false) rfl (t := false) rfl rfl rfl w) ?_
              refine SOps.val (v := .bool false) rfl (wantN rfl) (fun _ => by kernel_rfl) ?_
              refine SOps.off rfl (wantX (c := false) rfl rfl rfl rfl) ?_
              refine SOps.off rfl (wantX (c := false) rfl rfl rfl rfl) ?_
              refine SOps.off rfl (wantX (c := false) rfl rfl rfl rfl) ?_
              refine SOps.val (v := .bool false) rfl (wantN rfl) (fun w => ev_pickF (v := .bool false) rfl (t := false) rfl rfl rfl w) ?_
              refine SOps.val (v := .bool false) rfl (wantN rfl) (fun _ => by kernel_rfl) ?_
              refine SOps.off rfl (wantX (c := false) rfl rfl rfl rfl) ?_
              refine SOps.off rfl (wantX (c := false) rfl rfl rfl rfl) ?_
              refine SOps.off rfl (wantX (c := false) rfl rfl rfl rfl) ?_
              refine SOps.off rfl (wantX (c := false) rfl rfl rfl rfl) ?_
              refine SOps.val (v := .bool false) rfl (wantN rfl) (fun w => ev_pickF (v := .bool false) rfl (t := false) rfl rfl rfl w) ?_
              refine SOps.val (v := .bool false) rfl (wantN rfl) (fun _ => by kernel_rfl) ?_
              refine SOps.off rfl (wantX (c := false) rfl rfl rfl rfl) ?_
              refine SOps.off rfl (wantX (c := false) rfl rfl rfl rfl) ?_
              refine SOps.off rfl (wantX (c := false) rfl rfl rfl rfl) ?_
              refine SOps.val (v := .bool false) rfl (wantN rfl) (fun w => ev_pickF (v := .bool false) rfl (t := false) rfl rfl rfl w) ?_
              refine SOps.val (v := .bool false) rfl (wantN rfl) (fun _ => by kernel_rfl) ?_
              refine SOps.off rfl (wantX (c := false) rfl rfl rfl rfl) ?_
              refine SOps.off rfl (wantX (c := false) rfl rfl rfl rfl) ?_
              refine SOps.off rfl (wantX (c := false) rfl rfl rfl rfl) ?_
              refine SOps.off rfl (wantX (c := false) rfl rfl rfl rfl) ?_
              refine SOps.val (v := .bool false) rfl (wantN rfl) (fun w => ev_pickF (v := .bool false) rfl (t := false) rfl rfl rfl w) ?_
              refine SOps.val (v := .bool false) rfl (wantN rfl) (fun _ => by kernel_rfl) ?_
              refine SOps.nil ?_
              obtain ⟨Hr, hr, h⟩ := h
              exact SW.ret (retQ.mk (.bool false) (res1 rfl rfl) hr ⟨false, rfl, h⟩)
          · replace h := h.2 c27
            have dc27 : (x16 == x2) = false := (beq_eq_false_iff_ne.mpr c27)
            refine SOps.off rfl (wantX (c := (x16 == x2)) rfl rfl rfl dc27) ?_
            refine SOps.off rfl (wantX (c := (x16 == x2)) rfl rfl rfl dc27) ?_
            refine SOps.off rfl (wantX (c := (x16 == x2)) rfl rfl rfl dc27) ?_
            refine SOps.val (v := .bool false) rfl (wantN rfl) (fun w => ev_pickF (v := .bool false) rfl (t := (x16 == x2)) rfl dc27 rfl w) ?_
            refine SOps.val (v := .bool false) rfl (wantN rfl) (fun _ => by kernel_rfl) ?_
            refine SOps.off rfl (wantX (c := false) rfl rfl rfl rfl) ?_
            refine SOps.off rfl (wantX (c := false) rfl rfl rfl rfl) ?_
            refine SOps.val (v := .bool false) rfl (wantN rfl) (fun w => ev_pickF (v := .bool false) rfl (t := false) rfl rfl rfl w) ?_
            refine SOps.val (v := .bool false) rfl (wantN rfl) (fun _ => by kernel_rfl) ?_
            refine SOps.off rfl (wantX (c := false) rfl rfl rfl rfl) ?_
            refine SOps.off rfl (wantX (c := false) rfl rfl rfl rfl) ?_
            refine SOps.off rfl (wantX (c := false) rfl rfl rfl rfl) ?_
            refine SOps.val (v := .bool false) rfl (wantN rfl) (fun w => ev_pickF (v := .bool false) rfl (t := false) rfl rfl rfl w) ?_
            refine SOps.val (v := .bool false) rfl (wantN rfl) (fun _ => by kernel_rfl) ?_
            refine SOps.off rfl (wantX (c := false) rfl rfl rfl rfl) ?_
            refine SOps.off rfl (wantX (c := false) rfl rfl rfl rfl) ?_
            refine SOps.off rfl (wantX (c := false) rfl rfl rfl rfl) ?_
            refine SOps.off rfl (wantX (c := false) rfl rfl rfl rfl) ?_
            refine SOps.val (v := .bool false) rfl (wantN rfl) (fun w => ev_pickF (v := .bool false) rfl (t := false) rfl rfl rfl w) ?_
            refine SOps.val (v := .bool false) rfl (wantN rfl) (fun _ => by kernel_rfl) ?_
            refine SOps.off rfl (wantX (c := false) rfl rfl rfl rfl) ?_
            refine SOps.off rfl (wantX (c := false) rfl rfl rfl rfl) ?_
            refine SOps.off rfl (wantX (c := false) rfl rfl rfl rfl) ?_
            refine SOps.val (v := .bool false) rfl (wantN rfl) (fun w => ev_pickF (v := .bool false) rfl (t := false) rfl rfl rfl w) ?_
            refine SOps.val (v := .bool false) rfl (wantN rfl) (fun _ => by kernel_rfl) ?_
            refine SOps.off rfl (wantX (c := false) rfl rfl rfl rfl) ?_
            refine SOps.off rfl (wantX (c := false) rfl rfl rfl rfl) ?_
            refine SOps.off rfl (wantX (c := false) rfl rfl rfl rfl) ?_
            refine SOps.off rfl (wantX (c := false) rfl rfl rfl rfl) ?_
            refine SOps.val (v := .bool false) rfl (wantN rfl) (fun w => ev_pickF (v := .bool false) rfl (t := false) rfl rfl rfl w) ?_
            refine SOps.val (v := .bool false) rfl (wantN rfl) (fun _ => by kernel_rfl) ?_
            refine SOps.off rfl (wantX (c := false) rfl rfl rfl rfl) ?_
            refine SOps.off rfl (wantX (c := false) rfl rfl rfl rfl) ?_
            refine SOps.off rfl (wantX (c := false) rfl rfl rfl rfl) ?_
            refine SOps.val (v := .bool false) rfl (wantN rfl) (fun w => ev_pickF (v := .bool false) rfl (t := false) rfl rfl rfl w) ?_
            refine SOps.val (v := .bool false) rfl (wantN rfl) (fun _ => by kernel_rfl) ?_
            refine SOps.off rfl (wantX (c := false) rfl rfl rfl rfl) ?_
            refine SOps.off rfl (wantX (c := false) rfl rfl rfl rfl) ?_
            refine SOps.off rfl (wantX (c := false) rfl rfl rfl rfl) ?_
            refine SOps.off rfl (wantX (c := false) rfl rfl rfl rfl) ?_
            refine SOps.val (v := .bool false) rfl (wantN rfl) (fun w => ev_pickF (v := .bool false) rfl (t := false) rfl rfl rfl w) ?_
            refine SOps.val (v := .bool false) rfl (wantN rfl) (fun _ => by kernel_rfl) ?_
            refine SOps.nil ?_
            obtain ⟨Hr, hr, h⟩ := h
            exact SW.ret (retQ.mk (.bool false) (res1 rfl rfl) hr ⟨false, rfl, h⟩)
        · replace h := h.2 c26
          have dc26 : ((l15.len : Int) == 0) = false := (beq_eq_false_iff_ne.mpr c26)
          refine SOps.off rfl (wantX (c := ((l15.len : Int) == 0)) rfl rfl rfl dc26) ?_
          refine SOps.off rfl (wantX (c := ((l15.len : Int) == 0)) rfl rfl rfl dc26) ?_
          refine SOps.off rfl (wantX (c := ((l15.len : Int) == 0)) rfl rfl rfl dc26) ?_
          refine SOps.val (v := .bool false) rfl (wantN rfl) (fun w => ev_pickF (v := .bool false) rfl (t := ((l15.len : Int) == 0)) rfl dc26 rfl w) ?_
          refine SOps.val (v := .bool false) rfl (wantN rfl) (fun _ => by kernel_rfl) ?_
          refine SOps.off rfl (wantX (c := false) rfl rfl rfl rfl) ?_
          refine SOps.off rfl (wantX (c := false) rfl rfl rfl rfl) ?_
          refine SOps.off rfl (wantX (c := false) rfl rfl rfl rfl) ?_
          refine SOps.val (v := .bool false) rfl (wantN rfl) (fun w => ev_pickF (v := .bool false) rfl (t := false) rfl rfl rfl w) ?_
          refine SOps.val (v := .bool false) rfl (wantN rfl) (fun _ => by kernel_rfl) ?_
          refine SOps.off rfl (wantX (c := false) rfl rfl rfl rfl) ?_
          refine SOps.off rfl (wantX (c := false) rfl rfl rfl rfl) ?_
          refine SOps.val (v := .bool false) rfl (wantN rfl) (fun w => ev_pickF (v := .bool false) rfl (t := false) rfl rfl rfl w) ?_
          refine SOps.val (v := .bool false) rfl (wantN rfl) (fun _ => by kernel_rfl) ?_
          refine SOps.off rfl (wantX (c := false) rfl rfl rfl rfl) ?_
          refine SOps.off rfl (wantX (c := false) rfl rfl rfl rfl) ?_
          refine SOps.off rfl (wantX (c := false) rfl rfl rfl rfl) ?_
          refine SOps.val (v := .bool false) rfl (wantN rfl) (fun w => ev_pickF (v := .bool false) rfl (t := false) rfl rfl rfl w) ?_
          refine SOps.val (v := .bool false) rfl (wantN rfl) (fun _ => by kernel_rfl) ?_
          refine SOps.off rfl (wantX (c := false) rfl rfl rfl rfl) ?_
          refine SOps.off rfl (wantX (c := false) rfl rfl rfl rfl) ?_
          refine SOps.off rfl (wantX (c := false) rfl rfl rfl rfl) ?_
          refine SOps.off rfl (wantX (c := false) rfl rfl rfl rfl) ?_
          refine SOps.val (v := .bool false) rfl (wantN rfl) (fun w => ev_pickF (v := .bool false) rfl (t := false) rfl rfl rfl w) ?_
          refine SOps.val (v := .bool false) rfl (wantN rfl) (fun _ => by kernel_rfl) ?_
          refine SOps.off rfl (wantX (c := false) rfl rfl rfl rfl) ?_
          refine SOps.off rfl (wantX (c := false) rfl rfl rfl rfl) ?_
          refine SOps.off rfl (wantX (c := false) rfl rfl rfl rfl) ?_
          refine SOps.val (v := .bool false) rfl (wantN rfl) (fun w => ev_pickF (v := .bool false) rfl (t := false) rfl rfl rfl w) ?_
          refine SOps.val (v := .bool false) rfl (wantN rfl) (fun _ => by kernel_rfl) ?_
          refine SOps.off rfl (wantX (c := false) rfl rfl rfl rfl) ?_
          refine SOps.off rfl (wantX (c := false) rfl rfl rfl rfl) ?_
          refine SOps.off rfl (wantX (c := false) rfl rfl rfl rfl) ?_
          refine SOps.off rfl (wantX (c := false) rfl rfl rfl rfl) ?_
          refine SOps.val (v := .bool false) rfl (wantN rfl) (fun w => ev_pickF (v := .bool false) rfl (t := false) rfl rfl rfl w) ?_
          refine SOps.val (v := .bool false) rfl (wantN rfl) (fun _ => by kernel_rfl) ?_
          refine SOps.off rfl (wantX (c := false) rfl rfl rfl rfl) ?_
          refine SOps.off rfl (wantX (c := false) rfl rfl rfl rfl) ?_
          refine SOps.off rfl (wantX (c := false) rfl rfl rfl rfl) ?_
          refine SOps.val (v := .bool false) rfl (wantN rfl) (fun w => ev_pickF (v := .bool false) rfl (t := false) rfl rfl rfl w) ?_
          refine SOps.val (v := .bool false) rfl (wantN rfl) (fun _ => by kernel_rfl) ?_
          refine SOps.off rfl (wantX (c := false) rfl rfl rfl rfl) ?_
          refine SOps.off rfl (wantX (c := false) rfl rfl rfl rfl) ?_
          refine SOps.off rfl (wantX (c := false) rfl rfl rfl rfl) ?_
          refine SOps.off rfl (wantX (c := false) rfl rfl rfl rfl) ?_
          refine SOps.val (v := .bool false) rfl (wantN rfl) (fun w => ev_pickF (v := .bool false) rfl (t := false) rfl rfl rfl w) ?_
          refine SOps.val (v := .bool false) rfl (wantN rfl) (fun _ => by kernel_rfl) ?_
          refine SOps.nil ?_
          obtain ⟨Hr, hr, h⟩ := h
          exact SW.ret (retQ.mk (.bool false) (res1 rfl rfl) hr ⟨false, rfl, h⟩)
      · replace h := h.2 c25
        have dc25 : (decide (x11 < 0)) = false := (decide_eq_false c25)
        refine SOps.val (v := .int .i64 x11) rfl (wantY (c := decide (x11 < 0)) rfl rfl rfl dc25) (fun _ => by kernel_rfl) ?_
        refine SOps.val (v := .bool (decide (x11 > 4096))) rfl (wantY (c := decide (x11 < 0)) rfl rfl rfl dc25) (fun _ => by kernel_rfl) ?_
        refine SOps.val (v := .bool (decide (x11 > 4096))) rfl (wantN rfl) (fun w => ev_pickF (v := .bool (decide (x11 > 4096))) rfl (t := decide (x11 < 0)) rfl dc25 rfl w) ?_
        refine SOps.nil ?_
        by_cases c47 : x11 > 4096
        · replace h := h.1 c47
          have dc47 : (decide (x11 > 4096)) = true := (decide_eq_true c47)
          refine SW.cond_t (t := decide (x11 > 4096)) rfl dc47 ?_
          refine SW.seq ?_
          refine SW.region ?_
          refine SOps.val (v := sv l15) rfl (wantN rfl) (fun _ => by kernel_rfl) ?_
          refine SOps.val (v := .int .i64 (l15.len : Int)) rfl (wantN rfl) (fun _ => by kernel_rfl) ?_
          refine SOps.val (v := .bool ((l15.len : Int) == 0)) rfl (wantN rfl) (fun _ => by kernel_rfl) ?_
          refine SOps.val (v := .bool ((l15.len : Int) == 0)) rfl (wantN rfl) (fun _ => by kernel_rfl) ?_
          by_cases c48 : (l15.len : Int) = 0
          · replace h := h.1 c48
            have dc48 : ((l15.len : Int) == 0) = true := (beq_iff_eq.mpr c48)
            refine SOps.val (v := .int .i64 x16) rfl (wantY (c := ((l15.len : Int) == 0)) rfl rfl rfl dc48) (fun _ => by kernel_rfl) ?_
            refine SOps.val (v := .int .i64 x2) rfl (wantY (c := ((l15.len : Int) == 0)) rfl rfl rfl dc48) (fun _ => by kernel_rfl) ?_
            refine SOps.val (v := .bool (x16 == x2)) rfl (wantY (c := ((l15.len : Int) == 0)) rfl rfl rfl dc48) (fun _ => by kernel_rfl) ?_
            refine SOps.val (v := .bool (x16 == x2)) rfl (wantN rfl) (fun w => ev_pickT (v := .bool (x16 == x2)) rfl (t := ((l15.len : Int) == 0)) rfl dc48 rfl w) ?_
            refine SOps.val (v := .bool (x16 == x2)) rfl (wantN rfl) (fun _ => by kernel_rfl) ?_
            by_cases c49 : x16 = x2
            · replace h := h.1 c49
              have dc49 : (x16 == x2) = true := (beq_iff_eq.mpr c49)
              refine SOps.val (v := .int .i64 x19) rfl (wantY (c := (x16 == x2)) rfl rfl rfl dc49) (fun _ => by kernel_rfl) ?_
              refine SOps.val (v := .int .i64 x2) rfl (wantY (c := (x16 == x2)) rfl rfl rfl dc49) (fun _ => by kernel_rfl) ?_
              refine SOps.val (v := .bool (x19 == x2)) rfl (wantY (c := (x16 == x2)) rfl rfl rfl dc49) (fun _ => by kernel_rfl) ?_
              refine SOps.val (v := .bool (x19 == x2)) rfl (wantN rfl) (fun w => ev_pickT (v := .bool (x19 == x2)) rfl (t := (x16 == x2)) rfl dc49 rfl w) ?_
              refine SOps.val (v := .bool (x19 == x2)) rfl (wantN rfl) (fun _ => by kernel_rfl) ?_
              by_cases c50 : x19 = x2
              · replace h := h.1 c50
                have dc50 : (x19 == x2) = true := (beq_iff_eq.mpr c50)
                refine SOps.val (v := .int .i64 x22) rfl (wantY (c := (x19 == x2)) rfl rfl rfl dc50) (fun _ => by kernel_rfl) ?_
                refine SOps.val (v := .bool (x22 == 0)) rfl (wantY (c := (x19 == x2)) rfl rfl rfl dc50) (fun _ => by kernel_rfl) ?_
                refine SOps.val (v := .bool (x22 == 0)) rfl (wantN rfl) (fun w => ev_pickT (v := .bool (x22 == 0)) rfl (t := (x19 == x2)) rfl dc50 rfl w) ?_
                refine SOps.val (v := .bool (x22 == 0)) rfl (wantN rfl) (fun _ => by kernel_rfl) ?_
                by_cases c51 : x22 = 0
                · replace h := h.1 c51
                  have dc51 : (x22 == 0) = true := (beq_iff_eq.mpr c51)
                  refine SOps.val (v := errV e17) rfl (wantY (c := (x22 == 0)) rfl rfl rfl dc51) (fun _ => by kernel_rfl) ?_
                  refine SOps.enter rfl (wantY (c := (x22 == 0)) rfl rfl rfl dc51) (fun _ => by kernel_rfl) (api_Code.sound F e17 H24 _ h) ?_
                  clear h
                  rintro v H53 ⟨x52, rfl, h⟩
                  refine SOps.val (v := .bool (x52 == 1)) rfl (wantY (c := (x22 == 0)) rfl rfl rfl dc51) (fun _ => by kernel_rfl) ?_
                  refine SOps.val (v := .bool (x52 == 1)) rfl (wantN rfl) (fun w => ev_pickT (v := .bool (x52 == 1)) rfl (t := (x22 == 0)) rfl dc51 rfl w) ?_
                  refine SOps.val (v := .bool (x52 == 1)) rfl (wantN rfl) (fun _ => by kernel_rfl) ?_
                  by_cases c54 : x52 = 1
                  · replace h := h.1 c54
                    have dc54 : (x52 == 1) = true := (beq_iff_eq.mpr c54)
                    refine SOps.val (v := errV e17) rfl (wantY (c := (x52 == 1)) rfl rfl rfl dc54) (fun _ => by kernel_rfl) ?_
                    refine SOps.enter rfl (wantY (c := (x52 == 1)) rfl rfl rfl dc54) (fun _ => by kernel_rfl) (api_Place.sound F e17 H53 _ h) ?_
                    clear h
                    rintro v H56 ⟨x55, rfl, h⟩
                    refine SOps.val (v := .int .i64 x2) rfl (wantY (c := (x52 == 1)) rfl rfl rfl dc54) (fun _ => by kernel_rfl) ?_
                    refine SOps.val (v := .bool (x55 == x2)) rfl (wantY (c := (x52 == 1)) rfl rfl rfl dc54) (fun _ => by kernel_rfl) ?_
                    refine SOps.val (v := .bool (x55 == x2)) rfl (wantN rfl) (fun w => ev_pickT (v := .bool (x55 == x2)) rfl (t := (x52 == 1)) rfl dc54 rfl w) ?_
                    refine SOps.val (v := .bool (x55 == x2)) rfl (wantN rfl) (fun _ => by kernel_rfl) ?_
                    by_cases c57 : x55 = x2
                    · replace h := h.1 c57
                      have dc57 : (x55 == x2) = true := (beq_iff_eq.mpr c57)
                      refine SOps.val (v := errV e20) rfl (wantY (c := (x55 == x2)) rfl rfl rfl dc57) (fun _ => by kernel_rfl) ?_
                      refine SOps.enter rfl (wantY (c := (x55 == x2)) rfl rfl rfl dc57) (fun _ => by kernel_rfl) (api_Code.sound F e20 H56 _ h) ?_
                      clear h
                      rintro v H59 ⟨x58, rfl, h⟩
                      refine SOps.val (v := .bool (x58 == 1)) rfl (wantY (c := (x55 == x2)) rfl rfl rfl dc57) (fun _ => by kernel_rfl) ?_
                      refine SOps.val (v := .bool (x58 == 1)) rfl (wantN rfl) (fun w => ev_pickT (v := .bool (x58 == 1)) rfl (t := (x55 == x2)) rfl dc57 rfl w) ?_
                      refine SOps.val (v := .bool (x58 == 1)) rfl (wantN rfl) (fun _ => by kernel_rfl) ?_
                      by_cases c60 : x58 = 1
                      · replace h := h.1 c60
                        have dc60 : (x58 == 1) = true := (beq_iff_eq.mpr c60)
                        refine SOps.val (v := errV e20) rfl (wantY (c := (x58 == 1)) rfl rfl rfl dc60) (fun _ => by kernel_rfl) ?_
                        refine SOps.enter rfl (wantY (c := (x58 == 1)) rfl rfl rfl dc60) (fun _ => by kernel_rfl) (api_Place.sound F e20 H59 _ h) ?_
                        clear h
                        rintro v H62 ⟨x61, rfl, h⟩
                        refine SOps.val (v := .int .i64 x2) rfl (wantY (c := (x58 == 1)) rfl rfl rfl dc60) (fun _ => by kernel_rfl) ?_
                        refine SOps.val (v := .bool (x61 == x2)) rfl (wantY (c := (x58 == 1)) rfl rfl rfl dc60) (fun _ => by kernel_rfl) ?_
                        refine SOps.val (v := .bool (x61 == x2)) rfl (wantN rfl) (fun w => ev_pickT (v := .bool (x61 == x2)) rfl (t := (x58 == 1)) rfl dc60 rfl w) ?_
                        refine SOps.val (v := .bool (x61 == x2)) rfl (wantN rfl) (fun _ => by kernel_rfl) ?_
                        by_cases c63 : x61 = x2
                        · replace h := h.1 c63
                          have dc63 : (x61 == x2) = true := (beq_iff_eq.mpr c63)
                          refine SOps.val (v := errV e23) rfl (wantY (c := (x61 == x2)) rfl rfl rfl dc63) (fun _ => by kernel_rfl) ?_
                          refine SOps.enter rfl (wantY (c := (x61 == x2)) rfl rfl rfl dc63) (fun _ => by kernel_rfl) (api_Code.sound F e23 H62 _ h) ?_
                          clear h
                          rintro v H65 ⟨x64, rfl, h⟩
                          refine SOps.val (v := .bool (x64 == 1)) rfl (wantY (c := (x61 == x2)) rfl rfl rfl dc63) (fun _ => by kernel_rfl) ?_
                          refine SOps.val (v := .bool (x64 == 1)) rfl (wantN rfl) (fun w => ev_pickT (v := .bool (x64 == 1)) rfl (t := (x61 == x2)) rfl dc63 rfl w) ?_
                          refine SOps.val (v := .bool (x64 == 1)) rfl (wantN rfl) (fun _ => by kernel_rfl) ?_
                          by_cases c66 : x64 = 1
                          · replace h := h.1 c66
                            have dc66 : (x64 == 1) = true := (beq_iff_eq.mpr c66)
                            refine SOps.val (v := errV e23) rfl (wantY (c := (x64 == 1)) rfl rfl rfl dc66) (fun _ => by kernel_rfl) ?_
                            refine SOps.enter rfl (wantY (c := (x64 == 1)) rfl rfl rfl dc66) (fun _ => by kernel_rfl) (api_Place.sound F e23 H65 _ h) ?_
                            clear h
                            rintro v H68 ⟨x67, rfl, h⟩
                            refine SOps.val (v := .int .i64 x2) rfl (wantY (c := (x64 == 1)) rfl rfl rfl dc66) (fun _ => by kernel_rfl) ?_
                            refine SOps.val (v := .bool (x67 == x2)) rfl (wantY (c := (x64 == 1)) rfl rfl rfl dc66) (fun _ => by kernel_rfl) ?_
                            refine SOps.val (v := .bool (x67 == x2)) rfl (wantN rfl) (fun w => ev_pickT (v := .bool (x67 == x2)) rfl (t := (x64 == 1)) rfl dc66 rfl w) ?_
                            refine SOps.val (v := .bool (x67 == x2)) rfl (wantN rfl) (fun _ => by kernel_rfl) ?_
                            refine SOps.nil ?_
                            obtain ⟨Hr, hr, h⟩ := h
                            exact SW.ret (retQ.mk (.bool (x67 == x2)) (res1 rfl rfl) hr ⟨(x67 == x2), rfl, h⟩)
                          · replace h := h.2 c66
                            have dc66 : (x64 == 1) = false := (beq_eq_false_iff_ne.mpr c66)
                            refine SOps.off rfl (wantX (c := (x64 == 1)) rfl rfl rfl dc66) ?_
                            refine SOps.off rfl (wantX (c := (x64 == 1)) rfl rfl rfl dc66) ?_
                            refine SOps.off rfl (wantX (c := (x64 == 1)) rfl rfl rfl dc66) ?_
                            refine SOps.off rfl (wantX (c := (x64 == 1)) rfl rfl rfl dc66) ?_
                            refine SOps.val (v := .bool false) rfl (wantN rfl) (fun w => ev_pickF (v := .bool false) rfl (t := (x64 == 1)) rfl dc66 rfl w) ?_
                            refine SOps.val (v := .bool false) rfl (wantN rfl) (fun _ => by kernel_rfl) ?_
                            refine SOps.nil ?_
                            obtain ⟨Hr, hr, h⟩ := h
                            exact SW.ret (retQ.mk (.bool false) (res1 rfl rfl) hr ⟨false, rfl, h⟩)
                        · replace h := h.2 c63
                          have dc63 : (x61 == x2) = false := (beq_eq_false_iff_ne.mpr c63)
                          refine SOps.off rfl (wantX (c := (x61 == x2)) rfl rfl rfl dc63) ?_
                          refine SOps.off rfl (wantX (c := (x61 == x2)) rfl rfl rfl dc63) ?_
                          refine SOps.off rfl (wantX (c := (x61 == x2)) rfl rfl rfl dc63) ?_
                          refine SOps.val (v := .bool false) rfl (wantN rfl) (fun w => ev_pickF (v := .bool false) rfl (t := (x61 == x2)) rfl dc63 rfl w) ?_
                          refine SOps.val (v := .bool false) rfl (wantN rfl) (fun _ => by kernel_rfl) ?_
                          refine SOps.off rfl (wantX (c := false) rfl rfl rfl rfl) ?_
                          refine SOps.off rfl (wantX (c := false) rfl rfl rfl rfl) ?_
                          refine SOps.off rfl (wantX (c := false) rfl rfl rfl rfl) ?_
                          refine SOps.off rfl (wantX (c := false) rfl rfl rfl rfl) ?_
                          refine SOps.val (v := .bool false) rfl (wantN rfl) (fun w => ev_pickF (v := .bool false) rfl (t := false) rfl rfl rfl w) ?_
                          refine SOps.val (v := .bool false) rfl (wantN rfl) (fun _ => by kernel_rfl) ?_
                          refine SOps.nil ?_
                          obtain ⟨Hr, hr, h⟩ := h
                          exact SW.ret (retQ.mk (.bool false) (res1 rfl rfl) hr ⟨false, rfl, h⟩)
                      · replace h := h.2 c60
                        have dc60 : (x58 == 1) = false := (beq_eq_false_iff_ne.mpr c60)
                        refine SOps.off rfl (wantX (c := (x58 == 1)) rfl rfl rfl dc60) ?_
                        refine SOps.off rfl (wantX (c := (x58 == 1)) rfl rfl rfl dc60) ?_
                        refine SOps.off rfl (wantX (c := (x58 == 1)) rfl rfl rfl dc60) ?_
                        refine SOps.off rfl (wantX (c := (x58 == 1)) rfl rfl rfl dc60) ?_
                        refine SOps.val (v := .bool false) rfl (wantN rfl) (fun w => ev_pickF (v := .bool false) rfl (t := (x58 == 1)) rfl dc60 rfl w) ?_
                        refine SOps.val (v := .bool false) rfl (wantN rfl) (fun _ => by kernel_rfl) ?_
                        refine SOps.off rfl (wantX (c := false) rfl rfl rfl rfl) ?_
                        refine SOps.off rfl (wantX (c := false) rfl rfl rfl rfl) ?_
                        refine SOps.off rfl (wantX (c := false) rfl rfl rfl rfl) ?_
                        refine SOps.val (v := .bool false) rfl (wantN rfl) (fun w => ev_pickF (v := .bool false) rfl (t := false) rfl rfl rfl w) ?_
                        refine SOps.val (v := .bool false) rfl (wantN rfl) (fun _ => by kernel_rfl) ?_
                        refine SOps.off rfl (wantX (c := false) rfl rfl rfl rfl) ?_
                        refine SOps.off rfl (wantX (c := false) rfl rfl rfl rfl) ?_
                        refine SOps.off rfl (wantX (c := false) rfl rfl rfl rfl) ?_
                        refine SOps.off rfl (wantX (c := false) rfl rfl rfl rfl) ?_
                        refine SOps.val (v := .bool false) rfl (wantN rfl) (fun w => ev_pickF (v := .bool false) rfl (t := false) rfl rfl rfl w) ?_
                        refine SOps.val (v := .bool false) rfl (wantN rfl) (fun _ => by kernel_rfl) ?_
                        refine SOps.nil ?_
                        obtain ⟨Hr, hr, h⟩ := h
                        exact SW.ret (retQ.mk (.bool false) (res1 rfl rfl) hr ⟨false, rfl, h⟩)
                    · replace h := h.2 c57
                      have dc57 : (x55 == x2) = false := (beq_eq_false_iff_ne.mpr c57)
                      refine SOps.off rfl (wantX (c := (x55 == x2)) rfl rfl rfl dc57) ?_
                      refine SOps.off rfl (wantX (c := (x55 == x2)) rfl rfl rfl dc57) ?_
                      refine SOps.off rfl (wantX (c := (x55 == x2)) rfl rfl rfl dc57) ?_
                      refine SOps.val (v := .bool false) rfl (wantN rfl) (fun w => ev_pickF (v := .bool false) rfl (t := (x55 == x2)) rfl dc57 rfl w) ?_
                      refine SOps.val (v := .bool false) rfl (wantN rfl) (fun _ => by kernel_rfl) ?_
                      refine SOps.off rfl (wantX (c := false) rfl rfl rfl rfl) ?_
                      refine SOps.off rfl (wantX (c := false) rfl rfl rfl rfl) ?_
                      refine SOps.off rfl (wantX (c := false) rfl rfl rfl rfl) ?_
                      refine SOps.off rfl (wantX (c := false) rfl rfl rfl rfl) ?_
                      refine SOps.val (v := .bool false) rfl (wantN rfl) (fun w => ev_pickF (v := .bool false) rfl (t := false) rfl rfl rfl w) ?_
                      refine SOps.val (v := .bool false) rfl (wantN rfl) (fun _ => by kernel_rfl) ?_
                      refine SOps.off rfl (wantX (c := false) rfl rfl rfl rfl) ?_
                      refine SOps.off rfl (wantX (c := false) rfl rfl rfl rfl) ?_
                      refine SOps.off rfl (wantX (c := false) rfl rfl rfl rfl) ?_
                      refine SOps.val (v := .bool false) rfl (wantN rfl) (fun w => ev_pickF (v := .bool false) rfl (t := false) rfl rfl rfl w) ?_
                      refine SOps.val (v := .bool false) rfl (wantN rfl) (fun _ => by kernel_rfl) ?_
                      refine SOps.off rfl (wantX (c := false) rfl rfl rfl rfl) ?_
                      refine SOps.off rfl (wantX (c := false) rfl rfl rfl rfl) ?_
                      refine SOps.off rfl (wantX (c := false) rfl rfl rfl rfl) ?_
                      refine SOps.off rfl (wantX (c := false) rfl rfl rfl rfl) ?_
                      refine SOps.val (v := .bool false) rfl (wantN rfl) (fun w => ev_pickF (v := .bool false) rfl (t := false) rfl rfl rfl w) ?_
                      refine SOps.val (v := .bool false) rfl (wantN rfl) (fun _ => by kernel_rfl) ?_
                      refine SOps.nil ?_
                      obtain ⟨Hr, hr, h⟩ := h
                      exact SW.ret (retQ.mk (.bool false) (res1 rfl rfl) hr ⟨false, rfl, h⟩)
                  · replace h := h.2 c54
                    have dc54 : (x52 == 1) = false := (beq_eq_false_iff_ne.mpr c54)
                    refine SOps.off rfl (wantX (c := (x52 == 1)) rfl rfl rfl dc54) ?_
                    refine SOps.off rfl (wantX (c := (x52 == 1)) rfl rfl rfl dc54) ?_
                    refine SOps.off rfl (wantX (c := (x52 == 1)) rfl rfl rfl dc54) ?_
                    refine SOps.off rfl (wantX (c := (x52 == 1)) rfl rfl rfl dc54) ?_
                    refine SOps.val (v := .bool false) rfl (wantN rfl) (fun w => ev_pickF (v := .bool false) rfl (t := (x52 == 1)) rfl dc54 rfl w) ?_
                    refine SOps.val (v := .bool false) rfl (wantN rfl) (fun _ => by kernel_rfl) ?_
                    refine SOps.off rfl (wantX (c := false) rfl rfl rfl rfl) ?_
                    refine SOps.off rfl (wantX (c := false) rfl rfl rfl rfl) ?_
                    refine SOps.off rfl (wantX (c := false) rfl rfl rfl rfl) ?_
                    refine SOps.val (v := .bool false) rfl (wantN rfl) (fun w => ev_pickF (v := .bool false) rfl (t := false) rfl rfl rfl w) ?_
                    refine SOps.val (v := .bool false) rfl (wantN rfl) (fun _ => by kernel_rfl) ?_
                    refine SOps.off rfl (wantX (c := false) rfl rfl rfl rfl) ?_
                    refine SOps.off rfl (wantX (c := false) rfl rfl rfl rfl) ?_
                    refine SOps.off rfl (wantX (c := false) rfl rfl rfl rfl) ?_
                    refine SOps.off rfl (wantX (c := false) rfl rfl rfl rfl) ?_
                    refine SOps.val (v := .bool false) rfl (wantN rfl) (fun w => ev_pickF (v := .bool false) rfl (t := false) rfl rfl rfl w) ?_
                    refine SOps.val (v := .bool false) rfl (wantN rfl) (fun _ => by kernel_rfl) ?_
                    refine SOps.off rfl (wantX (c := false) rfl rfl rfl rfl) ?_
                    refine SOps.off rfl (wantX (c := false) rfl rfl rfl rfl) ?_
                    refine SOps.off rfl (wantX (c := false) rfl rfl rfl rfl) ?_
                    refine SOps.val (v := .bool false) rfl (wantN rfl) (fun w => ev_pickF (v := .bool false) rfl (t := false) rfl rfl rfl w) ?_
                    refine SOps.val (v := .bool false) rfl (wantN rfl) (fun _ => by kernel_rfl) ?_
                    refine SOps.off rfl (wantX (c := false) rfl rfl rfl rfl) ?_
                    refine SOps.off rfl (wantX (c := false) rfl rfl rfl rfl) ?_
                    refine SOps.off rfl (wantX (c := false) rfl rfl rfl rfl) ?_
                    refine SOps.off rfl (wantX (c := false) rfl rfl rfl rfl) ?_
                    refine SOps.val (v := .bool false) rfl (wantN rfl) (fun w => ev_pickF (v := .bool false) rfl (t := false) rfl rfl rfl w) ?_
                    refine SOps.val (v := .bool false) rfl (wantN rfl) (fun _ => by kernel_rfl) ?_
                    refine SOps.nil ?_
                    obtain ⟨Hr, hr, h⟩ := h
                    exact SW.ret (retQ.mk (.bool false) (res1 rfl rfl) hr ⟨false, rfl, h⟩)
                · replace h := h.2 c51
                  have dc51 : (x22 == 0) = false := (beq_eq_false_iff_ne.mpr c51)
                  refine SOps.off rfl (wantX (c := (x22 == 0)) rfl rfl rfl dc51) ?_
                  refine SOps.off rfl (wantX (c := (x22 == 0)) rfl rfl rfl dc51) ?_
                  refine SOps.off rfl (wantX (c := (x22 == 0)) rfl rfl rfl dc51) ?_
                  refine SOps.val (v := .bool false) rfl (wantN rfl) (fun w => ev_pickF (v := .bool false) rfl (t := (x22 == 0)) rfl dc51 rfl w) ?_
                  refine SOps.val (v := .bool false) rfl (wantN rfl) (fun _ => by kernel_rfl) ?_
                  refine SOps.off rfl (wantX (c := false) rfl rfl rfl rfl) ?_
                  refine SOps.off rfl (wantX (c := false) rfl rfl rfl rfl) ?_
                  refine SOps.off rfl (wantX (c := false) rfl rfl rfl rfl) ?_
                  refine SOps.off rfl (wantX (c := false) rfl rfl rfl rfl) ?_
                  refine SOps.val (v := .bool false) rfl (wantN rfl) (fun w => ev_pickF (v := .bool false) rfl (t := false) rfl rfl rfl w) ?_
                  refine SOps.val (v := .bool false) rfl (wantN rfl) (fun _ => by kernel_rfl) ?_
                  refine SOps.off rfl (wantX (c := false) rfl rfl rfl rfl) ?_
                  refine SOps.off rfl (wantX (c := false) rfl rfl rfl rfl) ?_
                  refine SOps.off rfl (wantX (c := false) rfl rfl rfl rfl) ?_
                  refine SOps.val (v := .bool false) rfl (wantN rfl) (fun w => ev_pickF (v := .bool false) rfl (t := false) rfl rfl rfl w) ?_
                  refine SOps.val (v := .bool false) rfl (wantN rfl) (fun _ => by kernel_rfl) ?_
                  refine SOps.off rfl (wantX (c := false) rfl rfl rfl rfl) ?_
                  refine SOps.off rfl (wantX (c := false) rfl rfl rfl rfl) ?_
                  refine SOps.off rfl (wantX (c := false) rfl rfl rfl rfl) ?_
                  refine SOps.off rfl (wantX (c := false) rfl rfl rfl rfl) ?_
                  refine SOps.val (v := .bool false) rfl (wantN rfl) (fun w => ev_pickF (v := .bool false) rfl (t := false) rfl rfl rfl w) ?_
                  refine SOps.val (v := .bool false) rfl (wantN rfl) (fun _ => by kernel_rfl) ?_
                  refine SOps.off rfl (wantX (c := false) rfl rfl rfl rfl) ?_
                  refine SOps.off rfl (wantX (c := false) rfl rfl rfl rfl) ?_
                  refine SOps.off rfl (wantX (c := false) rfl rfl rfl rfl) ?_
                  refine SOps.val (v := .bool false) rfl (wantN rfl) (fun w => ev_pickF (v := .bool false) rfl (t := false) rfl rfl rfl w) ?_
                  refine SOps.val (v := .bool false) rfl (wantN rfl) (fun _ => by kernel_rfl) ?_
                  refine SOps.off rfl (wantX (c := false) rfl rfl rfl rfl) ?_
                  refine SOps.off rfl (wantX (c := false) rfl rfl rfl rfl) ?_
                  refine SOps.off rfl (wantX (c := false) rfl rfl rfl rfl) ?_
                  refine SOps.off rfl (wantX (c := false) rfl rfl rfl rfl) ?_
                  refine SOps.val (v := .bool false) rfl (wantN rfl) (fun w => ev_pickF (v := .bool false) rfl (t := false) rfl rfl rfl w) ?_
                  refine SOps.val (v := .bool false) rfl (wantN rfl) (fun _ => by kernel_rfl) ?_
                  refine SOps.nil ?_
                  obtain ⟨Hr, hr, h⟩ := h
                  exact SW.ret (retQ.mk (.bool false) (res1 rfl rfl) hr ⟨false, rfl, h⟩)
              · replace h := h.2 c50
                have dc50 : (x19 == x2) = false := (beq_eq_false_iff_ne.mpr c50)
                refine SOps.off rfl (wantX (c := (x19 == x2)) rfl rfl rfl dc50) ?_
                refine SOps.off rfl (wantX (c := (x19 == x2)) rfl rfl rfl dc50) ?_
                refine SOps.val (v := .bool false) rfl (wantN rfl) (fun w => ev_pickF (v := .bool false) rfl (t := (x19 == x2)) rfl dc50 rfl w) ?_
                refine SOps.val (v := .bool false) rfl (wantN rfl) (fun _ => by kernel_rfl) ?_
                refine SOps.off rfl (wantX (c := false) rfl rfl rfl rfl) ?_
                refine SOps.off rfl (wantX (c := false) rfl rfl rfl rfl) ?_
                refine SOps.off rfl (wantX (c := false) rfl rfl rfl rfl) ?_
                refine SOps.val (v := .bool false) rfl (wantN rfl) (fun w => ev_pickF (v := .bool false) rfl (t := false) rfl rfl rfl w) ?_
                refine SOps.val (v := .bool false) rfl (wantN rfl) (fun _ => by kernel_rfl) ?_
                refine SOps.off rfl (wantX (c := false) rfl rfl rfl rfl) ?_
                refine SOps.off rfl (wantX (c := false) rfl rfl rfl rfl) ?_
                refine SOps.off rfl (wantX (c := false) rfl rfl rfl rfl) ?_
                refine SOps.off rfl (wantX (c := false) rfl rfl rfl rfl) ?_
                refine SOps.val (v := .bool false) rfl (wantN rfl) (fun w => ev_pickF (v := .bool false) rfl (t := false) rfl rfl rfl w) ?_
                refine SOps.val (v := .bool false) rfl (wantN rfl) (fun _ => by kernel_rfl) ?_
                refine SOps.off rfl (wantX (c := false) rfl rfl rfl rfl) ?_
                refine SOps.off rfl (wantX (c := false) rfl rfl rfl rfl) ?_
                refine SOps.off rfl (wantX (c := false) rfl rfl rfl rfl) ?_
                refine SOps.val (v := .bool false) rfl (wantN rfl) (fun w => ev_pickF (v := .bool false) rfl (t := false) rfl rfl rfl w) ?_
                refine SOps.val (v := .bool false) rfl (wantN rfl) (fun _ => by kernel_rfl) ?_
                refine SOps.off rfl (wantX (c := false) rfl rfl rfl rfl) ?_
                refine SOps.off rfl (wantX (c := false) rfl rfl rfl rfl) ?_
                refine SOps.off rfl (wantX (c := false) rfl rfl rfl rfl) ?_
                refine SOps.off rfl (wantX (c := false) rfl rfl rfl rfl) ?_
                refine SOps.val (v := .bool false) rfl (wantN rfl) (fun w => ev_pickF (v := .bool false) rfl (t := false) rfl rfl rfl w) ?_
                refine SOps.val (v := .bool false) rfl (wantN rfl) (fun _ => by kernel_rfl) ?_
                refine SOps.off rfl (wantX (c := false) rfl rfl rfl rfl) ?_
                refine SOps.off rfl (wantX (c := false) rfl rfl rfl rfl) ?_
                refine SOps.off rfl (wantX (c := false) rfl rfl rfl rfl) ?_
                refine SOps.val (v := .bool false) rfl (wantN rfl) (fun w => ev_pickF (v := .bool false) rfl (t := false) rfl rfl rfl w) ?_
                refine SOps.val (v := .bool false) rfl (wantN rfl) (fun _ => by kernel_rfl) ?_
                refine SOps.off rfl (wantX (c := false) rfl rfl rfl rfl) ?_
                refine SOps.off rfl (wantX (c := false) rfl rfl rfl rfl) ?_
                refine SOps.off rfl (wantX (c := false) rfl rfl rfl rfl) ?_
                refine SOps.off rfl (wantX (c := false) rfl rfl rfl rfl) ?_
                refine SOps.val (v := .bool false) rfl (wantN rfl) (fun w => ev_pickF (v := .bool false) rfl (t := false) rfl rfl rfl w) ?_
                refine SOps.val (v := .bool false) rfl (wantN rfl) (fun _ => by kernel_rfl) ?_
                refine SOps.nil ?_
                obtain ⟨Hr, hr, h⟩ := h
                exact SW.ret (retQ.mk (.bool false) (res1 rfl rfl) hr ⟨false, rfl, h⟩)
            · replace h := h.2 c49
              have dc49 : (x16 == x2) = false := (beq_eq_false_iff_ne.mpr c49)
              refine SOps.off rfl (wantX (c := (x16 == x2)) rfl rfl rfl dc49) ?_
              refine SOps.off rfl (wantX (c := (x16 == x2)) rfl rfl rfl dc49) ?_
              refine SOps.off rfl (wantX (c := (x16 == x2)) rfl rfl rfl dc49) ?_
              refine SOps.val (v := .bool false) rfl (wantN rfl) (fun w => ev_pickF (v := .bool false) rfl (t := (x16 == x2)) rfl dc49 rfl w) ?_
              refine SOps.val (v := .bool false) rfl (wantN rfl) (fun _ => by kernel_rfl) ?_
              refine SOps.off rfl (wantX (c := false) rfl rfl rfl rfl) ?_
              refine SOps.off rfl (wantX (c := false) rfl rfl rfl rfl) ?_
              refine SOps.val (v := .bool false) rfl (wantN rfl) (fun w => ev_pickF (v := .bool false) rfl (t := false) rfl rfl rfl w) ?_
              refine SOps.val (v := .bool false) rfl (wantN rfl) (fun _ => by kernel_rfl) ?_
              refine SOps.off rfl (wantX (c := false) rfl rfl rfl rfl) ?_
              refine SOps.off rfl (wantX (c := false) rfl rfl rfl rfl) ?_
              refine SOps.off rfl (wantX (c := false) rfl rfl rfl rfl) ?_
              refine SOps.val (v := .bool false) rfl (wantN rfl) (fun w => ev_pickF (v := .bool false) rfl (t := false) rfl rfl rfl w) ?_
              refine SOps.val (v := .bool false) rfl (wantN rfl) (fun _ => by kernel_rfl) ?_
              refine SOps.off rfl (wantX (c := false) rfl rfl rfl rfl) ?_
              refine SOps.off rfl (wantX (c := false) rfl rfl rfl rfl) ?_
              refine SOps.off rfl (wantX (c := false) rfl rfl rfl rfl) ?_
              refine SOps.off rfl (wantX (c := false) rfl rfl rfl rfl) ?_
              refine SOps.val (v := .bool false) rfl (wantN rfl) (fun w => ev_pickF (v := .bool false) rfl (t := false) rfl rfl rfl w) ?_
              refine SOps.val (v := .bool false) rfl (wantN rfl) (fun _ => by kernel_rfl) ?_
              refine SOps.off rfl (wantX (c := false) rfl rfl rfl rfl) ?_
              refine SOps.off rfl (wantX (c := false) rfl rfl rfl rfl) ?_
              refine SOps.off rfl (wantX (c := false) rfl rfl rfl rfl) ?_
              refine SOps.val (v := .bool false) rfl (wantN rfl) (fun w => ev_pickF (v := .bool false) rfl (t := false) rfl rfl rfl w) ?_
              refine SOps.val (v := .bool false) rfl (wantN rfl) (fun _ => by kernel_rfl) ?_
              refine SOps.off rfl (wantX (c := false) rfl rfl rfl rfl) ?_
              refine SOps.off rfl (wantX (c := false) rfl rfl rfl rfl) ?_
              refine SOps.off rfl (wantX (c := false) rfl rfl rfl rfl) ?_
              refine SOps.off rfl (wantX (c := false) rfl rfl rfl rfl) ?_
              refine SOps.val (v := .bool false) rfl (wantN rfl) (fun w => ev_pickF (v := .bool false) rfl (t := false) rfl rfl rfl w) ?_
              refine SOps.val (v := .bool false) rfl (wantN rfl) (fun _ => by kernel_rfl) ?_
              refine SOps.off rfl (wantX (c := false) rfl rfl rfl rfl) ?_
              refine SOps.off rfl (wantX (c := false) rfl rfl rfl rfl) ?_
              refine SOps.off rfl (wantX (c := false) rfl rfl rfl rfl) ?_
              refine SOps.val (v := .bool false) rfl (wantN rfl) (fun w => ev_pickF (v := .bool false) rfl (t := false) rfl rfl rfl w) ?_
              refine SOps.val (v := .bool false) rfl (wantN rfl) (fun _ => by kernel_rfl) ?_
              refine SOps.off rfl (wantX (c := false) rfl rfl rfl rfl) ?_
              refine SOps.off rfl (wantX (c := false) rfl rfl rfl rfl) ?_
              refine SOps.off rfl (wantX (c := false) rfl rfl rfl rfl) ?_
              refine SOps.off rfl (wantX (c := false) rfl rfl rfl rfl) ?_
              refine SOps.val (v := .bool false) rfl (wantN rfl) (fun w => ev_pickF (v := .bool false) rfl (t := false) rfl rfl rfl w) ?_
              refine SOps.val (v := .bool false) rfl (wantN rfl) (fun _ => by kernel_rfl) ?_
              refine SOps.nil ?_
              obtain ⟨Hr, hr, h⟩ := h
              exact SW.ret (retQ.mk (.bool false) (res1 rfl rfl) hr ⟨false, rfl, h⟩)
          · replace h := h.2 c48
            have dc48 : ((l15.len : Int) == 0) = false := (beq_eq_false_iff_ne.mpr c48)
            refine SOps.off rfl (wantX (c := ((l15.len : Int) == 0)) rfl rfl rfl dc48) ?_
            refine SOps.off rfl (wantX (c := ((l15.len : Int) == 0)) rfl rfl rfl dc48) ?_
            refine SOps.off rfl (wantX (c := ((l15.len : Int) == 0)) rfl rfl rfl dc48) ?_
            refine SOps.val (v := .bool false) rfl (wantN rfl) (fun w => ev_pickF (v := .bool false) rfl (t := ((l15.len : Int) == 0)) rfl dc48 rfl w) ?_
            refine SOps.val (v := .bool false) rfl (wantN rfl) (fun _ => by kernel_rfl) ?_
            refine SOps.off rfl (wantX (c := false) rfl rfl rfl rfl) ?_
            refine SOps.off rfl (wantX (c := false) rfl rfl rfl rfl) ?_
            refine SOps.off rfl (wantX (c := false) rfl rfl rfl rfl) ?_
            refine SOps.val (v := .bool false) rfl (wantN rfl) (fun w => ev_pickF (v := .bool false) rfl (t := false) rfl rfl rfl w) ?_
            refine SOps.val (v := .bool false) rfl (wantN rfl) (fun _ => by kernel_rfl) ?_
            refine SOps.off rfl (wantX (c := false) rfl rfl rfl rfl) ?_
            refine SOps.off rfl (wantX (c := false) rfl rfl rfl rfl) ?_
            refine SOps.val (v := .bool false) rfl (wantN rfl) (fun w => ev_pickF (v := .bool false) rfl (t := false) rfl rfl rfl w) ?_
            refine SOps.val (v := .bool false) rfl (wantN rfl) (fun _ => by kernel_rfl) ?_
            refine SOps.off rfl (wantX (c := false) rfl rfl rfl rfl) ?_
            refine SOps.off rfl (wantX (c := false) rfl rfl rfl rfl) ?_
            refine SOps.off rfl (wantX (c := false) rfl rfl rfl rfl) ?_
            refine SOps.val (v := .bool false) rfl (wantN rfl) (fun w => ev_pickF (v := .bool false) rfl (t := false) rfl rfl rfl w) ?_
            refine SOps.val (v := .bool false) rfl (wantN rfl) (fun _ => by kernel_rfl) ?_
            refine SOps.off rfl (wantX (c := false) rfl rfl rfl rfl) ?_
            refine SOps.off rfl (wantX (c := false) rfl rfl rfl rfl) ?_
            refine SOps.off rfl (wantX (c := false) rfl rfl rfl rfl) ?_
            refine SOps.off rfl (wantX (c := false) rfl rfl rfl rfl) ?_
            refine SOps.val (v := .bool false) rfl (wantN rfl) (fun w => ev_pickF (v := .bool false) rfl (t := false) rfl rfl rfl w) ?_
            refine SOps.val (v := .bool false) rfl (wantN rfl) (fun _ => by kernel_rfl) ?_
            refine SOps.off rfl (wantX (c := false) rfl rfl rfl rfl) ?_
            refine SOps.off rfl (wantX (c := false) rfl rfl rfl rfl) ?_
            refine SOps.off rfl (wantX (c := false) rfl rfl rfl rfl) ?_
            refine SOps.val (v := .bool false) rfl (wantN rfl) (fun w => ev_pickF (v := .bool false) rfl (t := false) rfl rfl rfl w) ?_
            refine SOps.val (v := .bool false) rfl (wantN rfl) (fun _ => by kernel_rfl) ?_
            refine SOps.off rfl (wantX (c := false) rfl rfl rfl rfl) ?_
            refine SOps.off rfl (wantX (c := false) rfl rfl rfl rfl) ?_
            refine SOps.off rfl (wantX (c := false) rfl rfl rfl rfl) ?_
            refine SOps.off rfl (wantX (c := false) rfl rfl rfl rfl) ?_
            refine SOps.val (v := .bool false) rfl (wantN rfl) (fun w => ev_pickF (v := .bool false) rfl (t := false) rfl rfl rfl w) ?_
            refine SOps.val (v := .bool false) rfl (wantN rfl) (fun _ => by kernel_rfl) ?_
            refine SOps.off rfl (wantX (c := false) rfl rfl rfl rfl) ?_
            refine SOps.off rfl (wantX (c := false) rfl rfl rfl rfl) ?_
            refine SOps.off rfl (wantX (c := false) rfl rfl rfl rfl) ?_
            refine SOps.val (v := .bool false) rfl (wantN rfl) (fun w => ev_pickF (v := .bool false) rfl (t := false) rfl rfl rfl w) ?_
            refine SOps.val (v := .bool false) rfl (wantN rfl) (fun _ => by kernel_rfl) ?_
            refine SOps.off rfl (wantX (c := false) rfl rfl rfl rfl) ?_
            refine SOps.off rfl (wantX (c := false) rfl rfl rfl rfl) ?_
            refine SOps.off rfl (wantX (c := false) rfl rfl rfl rfl) ?_
            refine SOps.off rfl (wantX (c := false) rfl rfl rfl rfl) ?_
            refine SOps.val (v := .bool false) rfl (wantN rfl) (fun w => ev_pickF (v := .bool false) rfl (t := false) rfl rfl rfl w) ?_
            refine SOps.val (v := .bool false) rfl (wantN rfl) (fun _ => by kernel_rfl) ?_
            refine SOps.nil ?_
            obtain ⟨Hr, hr, h⟩ := h
            exact SW.ret (retQ.mk (.bool false) (res1 rfl rfl) hr ⟨false, rfl, h⟩)
        · replace h := h.2 c47
          have dc47 : (decide (x11 > 4096)) = false := (decide_eq_false c47)
          refine SW.cond_f (t := decide (x11 > 4096)) rfl dc47 ?_
          refine SW.skip ?_
          refine SW.seq ?_
          refine SW.region ?_
          refine SOps.val (v := .string s1) rfl (wantN rfl) (fun _ => by kernel_rfl) ?_
          refine SOps.val (v := .int .i64 x2) rfl (wantN rfl) (fun _ => by kernel_rfl) ?_
          refine SOps.val (v := .int .i64 x11) rfl (wantN rfl) (fun _ => by kernel_rfl) ?_
          refine SOps.enter rfl (wantN rfl) (fun _ => by kernel_rfl) (ladingref06_Count.sound F s1 x2 x11 H24 _ h) ?_
          clear h
          rintro v H73 ⟨x69, x70, x71, x72, rfl, h⟩
          refine SOps.val (v := .string s1) rfl (wantN rfl) (fun _ => by kernel_rfl) ?_
          refine SOps.val (v := .int .i64 x2) rfl (wantN rfl) (fun _ => by kernel_rfl) ?_
          refine SOps.val (v := .int .i64 x11) rfl (wantN rfl) (fun _ => by kernel_rfl) ?_
          refine SOps.enter rfl (wantN rfl) (fun _ => by kernel_rfl) (ladingref06_Skip.sound F s1 x2 x11 H73 _ h) ?_
          clear h
          rintro v H78 ⟨l74, x75, x76, x77, rfl, h⟩
          refine SOps.alloc rfl rfl (wantN rfl) (z := .agg #[.int .i64 0, .int .i64 0, .int .i64 0, .int .i64 0]) (by kernel_rfl) (fun b79 c80 => ?_)
          replace h := h b79 c80
          refine SOps.alloc rfl rfl (wantN rfl) (z := .agg #[sv Sl.nil, .int .i64 0, .int .i64 0, .int .i64 0]) (by kernel_rfl) (fun b81 c82 => ?_)
          replace h := h b81 c82
          obtain ⟨c83, h⟩ := h
          refine SOps.storeL (p := (b79, 0)) (v := .agg #[.int .i64 x69, .int .i64 x70, .int .i64 x71, .int .i64 x72]) (cs := [.int .i64 x69, .int .i64 x70, .int .i64 x71, .int .i64 x72]) rfl rfl (wantN rfl) (size := 4) (by kernel_rfl) rfl rfl rfl rfl (by simp [Value.oneCell', errV_one, pv, sv]) c83 ?_
          obtain ⟨c84, h⟩ := h
          refine SOps.storeL (p := (b81, 0)) (v := .agg #[sv l74, .int .i64 x75, .int .i64 x76, .int .i64 x77]) (cs := [sv l74, .int .i64 x75, .int .i64 x76, .int .i64 x77]) rfl rfl (wantN rfl) (size := 4) (by kernel_rfl) rfl rfl rfl rfl (by simp [Value.oneCell', errV_one, pv, sv]) c84 ?_
          refine SOps.nil ?_
          refine SW.seqJ (fun fr H => ∃ (g : Fr) (s117 : ByteArray) (x118 : Int) (x119 : Int) (x120 : Int) (l121 : Sl) (x122 : Int) (e123 : Option EV), fr = g.upds [(0, (.string s117 : Value)), (1, (.int .i64 x118 : Value)), (7, (.int .i64 x119 : Value)), (8, (.int .i64 x120 : Value)), (9, sv l121), (10, (.int .i64 x122 : Value)), (11, errV e123)] ∧ ladinglaw06_GapGets.j1 F K s117 x118 x119 x120 l121 x122 e123 H) ?_ ?_
          · clear h
            rintro fr H ⟨g, s117, x118, x119, x120, l121, x122, e123, rfl, h⟩
            unfold ladinglaw06_GapGets.j1 at h
            refine SW.seq ?_
            refine SW.seq ?_
            refine SW.region ?_
            refine SOps.val (v := .int .i64 x120) rfl (wantN rfl) (fun _ => by kernel_rfl) ?_
            refine SOps.val (v := .bool (decide (x120 < 0))) rfl (wantN rfl) (fun _ => by kernel_rfl) ?_
            refine SOps.val (v := .bool (decide (x120 < 0))) rfl (wantN rfl) (fun _ => by kernel_rfl) ?_
            by_cases c140 : x120 < 0
            · replace h := h.1 c140
              have dc140 : (decide (x120 < 0)) = true := (decide_eq_true c140)
              refine SOps.off rfl (wantX (c := decide (x120 < 0)) rfl rfl rfl dc140) ?_
              refine SOps.off rfl (wantX (c := decide (x120 < 0)) rfl rfl rfl dc140) ?_
              refine SOps.off rfl (wantX (c := decide (x120 < 0)) rfl rfl rfl dc140) ?_
              refine SOps.val (v := .bool true) rfl (wantN rfl) (fun w => ev_pickT (v := .bool true) rfl (t := decide (x120 < 0)) rfl dc140 rfl w) ?_
              refine SOps.nil ?_
              refine SW.cond_t (t := true) rfl rfl ?_
              refine SW.seq ?_
              refine SW.region ?_
              refine SOps.val (v := sv l121) rfl (wantN rfl) (fun _ => by kernel_rfl) ?_
              refine SOps.val (v := .int .i64 (l121.len : Int)) rfl (wantN rfl) (fun _ => by kernel_rfl) ?_
              refine SOps.val (v := .bool ((l121.len : Int) == 0)) rfl (wantN rfl) (fun _ => by kernel_rfl) ?_
              refine SOps.val (v := .bool ((l121.len : Int) == 0)) rfl (wantN rfl) (fun _ => by kernel_rfl) ?_
              by_cases c141 : (l121.len : Int) = 0
              · replace h := h.1 c141
                have dc141 : ((l121.len : Int) == 0) = true := (beq_iff_eq.mpr c141)
                refine SOps.val (v := .int .i64 x122) rfl (wantY (c := ((l121.len : Int) == 0)) rfl rfl rfl dc141) (fun _ => by kernel_rfl) ?_
                refine SOps.val (v := .int .i64 x118) rfl (wantY (c := ((l121.len : Int) == 0)) rfl rfl rfl dc141) (fun _ => by kernel_rfl) ?_
                refine SOps.val (v := .bool (x122 == x118)) rfl (wantY (c := ((l121.len : Int) == 0)) rfl rfl rfl dc141) (fun _ => by kernel_rfl) ?_
                refine SOps.val (v := .bool (x122 == x118)) rfl (wantN rfl) (fun w => ev_pickT (v := .bool (x122 == x118)) rfl (t := ((l121.len : Int) == 0)) rfl dc141 rfl w) ?_
                refine SOps.val (v := .bool (x122 == x118)) rfl (wantN rfl) (fun _ => by kernel_rfl) ?_
                by_cases c142 : x122 = x118
                · replace h := h.1 c142
                  have dc142 : (x122 == x118) = true := (beq_iff_eq.mpr c142)
                  refine SOps.val (v := errV e123) rfl (wantY (c := (x122 == x118)) rfl rfl rfl dc142) (fun _ => by kernel_rfl) ?_
                  refine SOps.enter rfl (wantY (c := (x122 == x118)) rfl rfl rfl dc142) (fun _ => by kernel_rfl) (api_Code.sound F e123 H _ h) ?_
                  clear h
                  rintro v H144 ⟨x143, rfl, h⟩
                  refine SOps.val (v := .bool (x143 == 2)) rfl (wantY (c := (x122 == x118)) rfl rfl rfl dc142) (fun _ => by kernel_rfl) ?_
                  refine SOps.val (v := .bool (x143 == 2)) rfl (wantN rfl) (fun w => ev_pickT (v := .bool (x143 == 2)) rfl (t := (x122 == x118)) rfl dc142 rfl w) ?_
                  refine SOps.val (v := .bool (x143 == 2)) rfl (wantN rfl) (fun _ => by kernel_rfl) ?_
                  by_cases c145 : x143 = 2
                  · replace h := h.1 c145
                    have dc145 : (x143 == 2) = true := (beq_iff_eq.mpr c145)
                    refine SOps.val (v := errV e123) rfl (wantY (c := (x143 == 2)) rfl rfl rfl dc145) (fun _ => by kernel_rfl) ?_
                    refine SOps.enter rfl (wantY (c := (x143 == 2)) rfl rfl rfl dc145) (fun _ => by kernel_rfl) (api_Place.sound F e123 H144 _ h) ?_
                    clear h
                    rintro v H147 ⟨x146, rfl, h⟩
                    refine SOps.val (v := .int .i64 x118) rfl (wantY (c := (x143 == 2)) rfl rfl rfl dc145) (fun _ => by kernel_rfl) ?_
                    refine SOps.val (v := .bool (x146 == x118)) rfl (wantY (c := (x143 == 2)) rfl rfl rfl dc145) (fun _ => by kernel_rfl) ?_
                    refine SOps.val (v := .bool (x146 == x118)) rfl (wantN rfl) (fun w => ev_pickT (v := .bool (x146 == x118)) rfl (t := (x143 == 2)) rfl dc145 rfl w) ?_
                    refine SOps.val (v := .bool (x146 == x118)) rfl (wantN rfl) (fun _ => by kernel_rfl) ?_
                    refine SOps.nil ?_
                    obtain ⟨Hr, hr, h⟩ := h
                    exact SW.ret (retQ.mk (.bool (x146 == x118)) (res1 rfl rfl) hr ⟨(x146 == x118), rfl, h⟩)
                  · replace h := h.2 c145
                    have dc145 : (x143 == 2) = false := (beq_eq_false_iff_ne.mpr c145)
                    refine SOps.off rfl (wantX (c := (x143 == 2)) rfl rfl rfl dc145) ?_
                    refine SOps.off rfl (wantX (c := (x143 == 2)) rfl rfl rfl dc145) ?_
                    refine SOps.off rfl (wantX (c := (x143 == 2)) rfl rfl rfl dc145) ?_
                    refine SOps.off rfl (wantX (c := (x143 == 2)) rfl rfl rfl dc145) ?_
                    refine SOps.val (v := .bool false) rfl (wantN rfl) (fun w => ev_pickF (v := .bool false) rfl (t := (x143 == 2)) rfl dc145 rfl w) ?_
                    refine SOps.val (v := .bool false) rfl (wantN rfl) (fun _ => by kernel_rfl) ?_
                    refine SOps.nil ?_
                    obtain ⟨Hr, hr, h⟩ := h
                    exact SW.ret (retQ.mk (.bool false) (res1 rfl rfl) hr ⟨false, rfl, h⟩)
                · replace h := h.2 c142
                  have dc142 : (x122 == x118) = false := (beq_eq_false_iff_ne.mpr c142)
                  refine SOps.off rfl (wantX (c := (x122 == x118)) rfl rfl rfl dc142) ?_
                  refine SOps.off rfl (wantX (c := (x122 == x118)) rfl rfl rfl dc142) ?_
                  refine SOps.off rfl (wantX (c := (x122 == x118)) rfl rfl rfl dc142) ?_
                  refine SOps.val (v := .bool false) rfl (wantN rfl) (fun w => ev_pickF (v := .bool false) rfl (t := (x122 == x118)) rfl dc142 rfl w) ?_
                  refine SOps.val (v := .bool false) rfl (wantN rfl) (fun _ => by kernel_rfl) ?_
                  refine SOps.off rfl (wantX (c := false) rfl rfl rfl rfl) ?_
                  refine SOps.off rfl (wantX (c := false) rfl rfl rfl rfl) ?_
                  refine SOps.off rfl (wantX (c := false) rfl rfl rfl rfl) ?_
                  refine SOps.off rfl (wantX (c := false) rfl rfl rfl rfl) ?_
                  refine SOps.val (v := .bool false) rfl (wantN rfl) (fun w => ev_pickF (v := .bool false) rfl (t := false) rfl rfl rfl w) ?_
                  refine SOps.val (v := .bool false) rfl (wantN rfl) (fun _ => by kernel_rfl) ?_
                  refine SOps.nil ?_
                  obtain ⟨Hr, hr, h⟩ := h
                  exact SW.ret (retQ.mk (.bool false) (res1 rfl rfl) hr ⟨false, rfl, h⟩)
              · replace h := h.2 c141
                have dc141 : ((l121.len : Int) == 0) = false := (beq_eq_false_iff_ne.mpr c141)
                refine SOps.off rfl (wantX (c := ((l121.len : Int) == 0)) rfl rfl rfl dc141) ?_
                refine SOps.off rfl (wantX (c := ((l121.len : Int) == 0)) rfl rfl rfl dc141) ?_
                refine SOps.off rfl (wantX (c := ((l121.len : Int) == 0)) rfl rfl rfl dc141) ?_
                refine SOps.val (v := .bool false) rfl (wantN rfl) (fun w => ev_pickF (v := .bool false) rfl (t := ((l121.len : Int) == 0)) rfl dc141 rfl w) ?_
                refine SOps.val (v := .bool false) rfl (wantN rfl) (fun _ => by kernel_rfl) ?_
                refine SOps.off rfl (wantX (c := false) rfl rfl rfl rfl) ?_
                refine SOps.off rfl (wantX (c := false) rfl rfl rfl rfl) ?_
                refine SOps.off rfl (wantX (c := false) rfl rfl rfl rfl) ?_
                refine SOps.val (v := .bool false) rfl (wantN rfl) (fun w => ev_pickF (v := .bool false) rfl (t := false) rfl rfl rfl w) ?_
                refine SOps.val (v := .bool false) rfl (wantN rfl) (fun _ => by kernel_rfl) ?_
                refine SOps.off rfl (wantX (c := false) rfl rfl rfl rfl) ?_
                refine SOps.off rfl (wantX (c := false) rfl rfl rfl rfl) ?_
                refine SOps.off rfl (wantX (c := false) rfl rfl rfl rfl) ?_
                refine SOps.off rfl (wantX (c := false) rfl rfl rfl rfl) ?_
                refine SOps.val (v := .bool false) rfl (wantN rfl) (fun w => ev_pickF (v := .bool false) rfl (t := false) rfl rfl rfl w) ?_
                refine SOps.val (v := .bool false) rfl (wantN rfl) (fun _ => by kernel_rfl) ?_
                refine SOps.nil ?_
                obtain ⟨Hr, hr, h⟩ := h
                exact SW.ret (retQ.mk (.bool false) (res1 rfl rfl) hr ⟨false, rfl, h⟩)
            · replace h := h.2 c140
              have dc140 : (decide (x120 < 0)) = false := (decide_eq_false c140)
              refine SOps.val (v := .int .i64 x120) rfl (wantY (c := decide (x120 < 0)) rfl rfl rfl dc140) (fun _ => by kernel_rfl) ?_
              refine SOps.val (v := .int .i64 x119) rfl (wantY (c := decide (x120 < 0)) rfl rfl rfl dc140) (fun _ => by kernel_rfl) ?_
              refine SOps.val (v := .bool (decide (x120 ≥ x119))) rfl (wantY (c := decide (x120 < 0)) rfl rfl rfl dc140) (fun _ => by kernel_rfl) ?_
              refine SOps.val (v := .bool (decide (x120 ≥ x119))) rfl (wantN rfl) (fun w => ev_pickF (v := .bool (decide (x120 ≥ x119))) rfl (t := decide (x120 < 0)) rfl dc140 rfl w) ?_
              refine SOps.nil ?_
              by_cases c148 : x120 ≥ x119
              · replace h := h.1 c148
                have dc148 : (decide (x120 ≥ x119)) = true := (decide_eq_true c148)
                refine SW.cond_t (t := decide (x120 ≥ x119)) rfl dc148 ?_
                refine SW.seq ?_
                refine SW.region ?_
                refine SOps.val (v := sv l121) rfl (wantN rfl) (fun _ => by kernel_rfl) ?_
                refine SOps.val (v := .int .i64 (l121.len : Int)) rfl (wantN rfl) (fun _ => by kernel_rfl) ?_
                refine SOps.val (v := .bool ((l121.len : Int) == 0)) rfl (wantN rfl) (fun _ => by kernel_rfl) ?_
                refine SOps.val (v := .bool ((l121.len : Int) == 0)) rfl (wantN rfl) (fun _ => by kernel_rfl) ?_
                by_cases c149 : (l121.len : Int) = 0
                · replace h := h.1 c149
                  have dc149 : ((l121.len : Int) == 0) = true := (beq_iff_eq.mpr c149)
                  refine SOps.val (v := .int .i64 x122) rfl (wantY (c := ((l121.len : Int) == 0)) rfl rfl rfl dc149) (fun _ => by kernel_rfl) ?_
                  refine SOps.val (v := .int .i64 x118) rfl (wantY (c := ((l121.len : Int) == 0)) rfl rfl rfl dc149) (fun _ => by kernel_rfl) ?_
                  refine SOps.val (v := .bool (x122 == x118)) rfl (wantY (c := ((l121.len : Int) == 0)) rfl rfl rfl dc149) (fun _ => by kernel_rfl) ?_
                  refine SOps.val (v := .bool (x122 == x118)) rfl (wantN rfl) (fun w => ev_pickT (v := .bool (x122 == x118)) rfl (t := ((l121.len : Int) == 0)) rfl dc149 rfl w) ?_
                  refine SOps.val (v := .bool (x122 == x118)) rfl (wantN rfl) (fun _ => by kernel_rfl) ?_
                  by_cases c150 : x122 = x118
                  · replace h := h.1 c150
                    have dc150 : (x122 == x118) = true := (beq_iff_eq.mpr c150)
                    refine SOps.val (v := errV e123) rfl (wantY (c := (x122 == x118)) rfl rfl rfl dc150) (fun _ => by kernel_rfl) ?_
                    refine SOps.enter rfl (wantY (c := (x122 == x118)) rfl rfl rfl dc150) (fun _ => by kernel_rfl) (api_Code.sound F e123 H _ h) ?_
                    clear h
                    rintro v H152 ⟨x151, rfl, h⟩
                    refine SOps.val (v := .bool (x151 == 2)) rfl (wantY (c := (x122 == x118)) rfl rfl rfl dc150) (fun _ => by kernel_rfl) ?_
                    refine SOps.val (v := .bool (x151 == 2)) rfl (wantN rfl) (fun w => ev_pickT (v := .bool (x151 == 2)) rfl (t := (x122 == x118)) rfl dc150 rfl w) ?_
                    refine SOps.val (v := .bool (x151 == 2)) rfl (wantN rfl) (fun _ => by kernel_rfl) ?_
                    by_cases c153 : x151 = 2
                    · replace h := h.1 c153
                      have dc153 : (x151 == 2) = true := (beq_iff_eq.mpr c153)
                      refine SOps.val (v := errV e123) rfl (wantY (c := (x151 == 2)) rfl rfl rfl dc153) (fun _ => by kernel_rfl) ?_
                      refine SOps.enter rfl (wantY (c := (x151 == 2)) rfl rfl rfl dc153) (fun _ => by kernel_rfl) (api_Place.sound F e123 H152 _ h) ?_
                      clear h
                      rintro v H155 ⟨x154, rfl, h⟩
                      refine SOps.val (v := .int .i64 x118) rfl (wantY (c := (x151 == 2)) rfl rfl rfl dc153) (fun _ => by kernel_rfl) ?_
                      refine SOps.val (v := .bool (x154 == x118)) rfl (wantY (c := (x151 == 2)) rfl rfl rfl dc153) (fun _ => by kernel_rfl) ?_
                      refine SOps.val (v := .bool (x154 == x118)) rfl (wantN rfl) (fun w => ev_pickT (v := .bool (x154 == x118)) rfl (t := (x151 == 2)) rfl dc153 rfl w) ?_
                      refine SOps.val (v := .bool (x154 == x118)) rfl (wantN rfl) (fun _ => by kernel_rfl) ?_
                      refine SOps.nil ?_
                      obtain ⟨Hr, hr, h⟩ := h
                      exact SW.ret (retQ.mk (.bool (x154 == x118)) (res1 rfl rfl) hr ⟨(x154 == x118), rfl, h⟩)
                    · replace h := h.2 c153
                      have dc153 : (x151 == 2) = false := (beq_eq_false_iff_ne.mpr c153)
                      refine SOps.off rfl (wantX (c := (x151 == 2)) rfl rfl rfl dc153) ?_
                      refine SOps.off rfl (wantX (c := (x151 == 2)) rfl rfl rfl dc153) ?_
                      refine SOps.off rfl (wantX (c := (x151 == 2)) rfl rfl rfl dc153) ?_
                      refine SOps.off rfl (wantX (c := (x151 == 2)) rfl rfl rfl dc153) ?_
                      refine SOps.val (v := .bool false) rfl (wantN rfl) (fun w => ev_pickF (v := .bool false) rfl (t := (x151 == 2)) rfl dc153 rfl w) ?_
                      refine SOps.val (v := .bool false) rfl (wantN rfl) (fun _ => by kernel_rfl) ?_
                      refine SOps.nil ?_
                      obtain ⟨Hr, hr, h⟩ := h
                      exact SW.ret (retQ.mk (.bool false) (res1 rfl rfl) hr ⟨false, rfl, h⟩)
                  · replace h := h.2 c150
                    have dc150 : (x122 == x118) = false := (beq_eq_false_iff_ne.mpr c150)
                    refine SOps.off rfl (wantX (c := (x122 == x118)) rfl rfl rfl dc150) ?_
                    refine SOps.off rfl (wantX (c := (x122 == x118)) rfl rfl rfl dc150) ?_
                    refine SOps.off rfl (wantX (c := (x122 == x118)) rfl rfl rfl dc150) ?_
                    refine SOps.val (v := .bool false) rfl (wantN rfl) (fun w => ev_pickF (v := .bool false) rfl (t := (x122 == x118)) rfl dc150 rfl w) ?_
                    refine SOps.val (v := .bool false) rfl (wantN rfl) (fun _ => by kernel_rfl) ?_
                    refine SOps.off rfl (wantX (c := false) rfl rfl rfl rfl) ?_
                    refine SOps.off rfl (wantX (c := false) rfl rfl rfl rfl) ?_
                    refine SOps.off rfl (wantX (c := false) rfl rfl rfl rfl) ?_
                    refine SOps.off rfl (wantX (c := false) rfl rfl rfl rfl) ?_
                    refine SOps.val (v := .bool false) rfl (wantN rfl) (fun w => ev_pickF (v := .bool false) rfl (t := false) rfl rfl rfl w) ?_
                    refine SOps.val (v := .bool false) rfl (wantN rfl) (fun _ => by kernel_rfl) ?_
                    refine SOps.nil ?_
                    obtain ⟨Hr, hr, h⟩ := h
                    exact SW.ret (retQ.mk (.bool false) (res1 rfl rfl) hr ⟨false, rfl, h⟩)
                · replace h := h.2 c149
                  have dc149 : ((l121.len : Int) == 0) = false := (beq_eq_false_iff_ne.mpr c149)
                  refine SOps.off rfl (wantX (c := ((l121.len : Int) == 0)) rfl rfl rfl dc149) ?_
                  refine SOps.off rfl (wantX (c := ((l121.len : Int) == 0)) rfl rfl rfl dc149) ?_
                  refine SOps.off rfl (wantX (c := ((l121.len : Int) == 0)) rfl rfl rfl dc149) ?_
                  refine SOps.val (v := .bool false) rfl (wantN rfl) (fun w => ev_pickF (v := .bool false) rfl (t := ((l121.len : Int) == 0)) rfl dc149 rfl w) ?_
                  refine SOps.val (v := .bool false) rfl (wantN rfl) (fun _ => by kernel_rfl) ?_
                  refine SOps.off rfl (wantX (c := false) rfl rfl rfl rfl) ?_
                  refine SOps.off rfl (wantX (c := false) rfl rfl rfl rfl) ?_
                  refine SOps.off rfl (wantX (c := false) rfl rfl rfl rfl) ?_
                  refine SOps.val (v := .bool false) rfl (wantN rfl) (fun w => ev_pickF (v := .bool false) rfl (t := false) rfl rfl rfl w) ?_
                  refine SOps.val (v := .bool false) rfl (wantN rfl) (fun _ => by kernel_rfl) ?_
                  refine SOps.off rfl (wantX (c := false) rfl rfl rfl rfl) ?_
                  refine SOps.off rfl (wantX (c := false) rfl rfl rfl rfl) ?_
                  refine SOps.off rfl (wantX (c := false) rfl rfl rfl rfl) ?_
                  refine SOps.off rfl (wantX (c := false) rfl rfl rfl rfl) ?_
                  refine SOps.val (v := .bool false) rfl (wantN rfl) (fun w => ev_pickF (v := .bool false) rfl (t := false) rfl rfl rfl w) ?_
                  refine SOps.val (v := .bool false) rfl (wantN rfl) (fun _ => by kernel_rfl) ?_
                  refine SOps.nil ?_
                  obtain ⟨Hr, hr, h⟩ := h
                  exact SW.ret (retQ.mk (.bool false) (res1 rfl rfl) hr ⟨false, rfl, h⟩)
              · replace h := h.2 c148
                have dc148 : (decide (x120 ≥ x119)) = false := (decide_eq_false c148)
                refine SW.cond_f (t := decide (x120 ≥ x119)) rfl dc148 ?_
                refine SW.skip ?_
                refine SW.seq ?_
                refine SW.region ?_
                refine SOps.val (v := .string s117) rfl (wantN rfl) (fun _ => by kernel_rfl) ?_
                refine SOps.val (v := .int .i64 x118) rfl (wantN rfl) (fun _ => by kernel_rfl) ?_
                refine SOps.val (v := .int .i64 x119) rfl (wantN rfl) (fun _ => by kernel_rfl) ?_
                refine SOps.val (v := .int .i64 x120) rfl (wantN rfl) (fun _ => by kernel_rfl) ?_
                refine SOps.enter rfl (wantN rfl) (fun _ => by kernel_rfl) (ladingref06_Get.sound F s117 x118 x119 x120 H _ h) ?_
                clear h
                rintro v H160 ⟨l156, x157, x158, x159, rfl, h⟩
                refine SOps.alloc rfl rfl (wantN rfl) (z := .agg #[sv Sl.nil, .int .i64 0, .int .i64 0, .int .i64 0]) (by kernel_rfl) (fun b161 c162 => ?_)
                replace h := h b161 c162
                obtain ⟨c163, h⟩ := h
                refine SOps.storeL (p := (b161, 0)) (v := .agg #[sv l156, .int .i64 x157, .int .i64 x158, .int .i64 x159]) (cs := [sv l156, .int .i64 x157, .int .i64 x158, .int .i64 x159]) rfl rfl (wantN rfl) (size := 4) (by kernel_rfl) rfl rfl rfl rfl (by simp [Value.oneCell', errV_one, pv, sv]) c163 ?_
                refine SOps.nil ?_
                refine SW.seq ?_
                refine SW.draw (by kernel_rfl) (by kernel_rfl) ?_
                refine SQ.val (v := sv l121) rfl (wantN rfl) (fun _ => by kernel_rfl) ?_
                refine SQ.val (v := pv (some (b161, 0))) rfl (wantN rfl) (fun _ => by kernel_rfl) ?_
                obtain ⟨l164, c165, h⟩ := h
                refine SQ.rd (v := sv l164) rfl (wantN rfl) (fun w hw => ev_load1 rfl (fun _ => by kernel_rfl) (p := (b161, 0)) rfl c165 w hw) ?_
                obtain ⟨q166, c167, h⟩ := h
                refine SQ.enter (v := .bool q166) rfl (wantN rfl) (fun _ => by kernel_rfl) ((ladingref05_Ints.sound F l121 l164 (SH.setl (SH.upd H160 b161 ⟨[sv Sl.nil, .int .i64 0, .int .i64 0, .int .i64 0], 65, false, 4⟩) (b161, 0) [sv l156, .int .i64 x157, .int .i64 x158, .int .i64 x159]) _ c167).mono (by rintro v H' ⟨_, rfl, rfl, rfl⟩; exact ⟨rfl, rfl⟩)) ?_
                refine SQ.val (v := .bool q166) rfl (wantN rfl) (fun _ => by kernel_rfl) ?_
                by_cases c168 : q166 = true
                · replace h := h.1 c168
                  have dc168 : q166 = true := c168
                  refine SQ.val (v := .int .i64 x122) rfl (wantY (c := q166) rfl rfl rfl dc168) (fun _ => by kernel_rfl) ?_
                  refine SQ.val (v := pv (some (b161, 1))) rfl (wantY (c := q166) rfl rfl rfl dc168) (fun _ => by kernel_rfl) ?_
                  obtain ⟨x169, c170, h⟩ := h
                  refine SQ.rd (v := .int .i64 x169) rfl (wantY (c := q166) rfl rfl rfl dc168) (fun w hw => ev_load1 rfl (fun _ => by kernel_rfl) (p := (b161, 1)) rfl c170 w hw) ?_
                  refine SQ.val (v := .bool (x122 == x169)) rfl (wantY (c := q166) rfl rfl rfl dc168) (fun _ => by kernel_rfl) ?_
                  refine SQ.val (v := .bool (x122 == x169)) rfl (wantN rfl) (fun w => ev_pickT (v := .bool (x122 == x169)) rfl (t := q166) rfl dc168 rfl w) ?_
                  refine SQ.val (v := .bool (x122 == x169)) rfl (wantN rfl) (fun _ => by kernel_rfl) ?_
                  by_cases c171 : x122 = x169
                  · replace h := h.1 c171
                    have dc171 : (x122 == x169) = true := (beq_iff_eq.mpr c171)
                    refine SQ.val (v := errV e123) rfl (wantY (c := (x122 == x169)) rfl rfl rfl dc171) (fun _ => by kernel_rfl) ?_
                    obtain ⟨x172, c173, h⟩ := h
                    refine SQ.enter (v := .int .i64 x172) rfl (wantY (c := (x122 == x169)) rfl rfl rfl dc171) (fun _ => by kernel_rfl) ((api_Code.sound F e123 (SH.setl (SH.upd H160 b161 ⟨[sv Sl.nil, .int .i64 0, .int .i64 0, .int .i64 0], 65, false, 4⟩) (b161, 0) [sv l156, .int .i64 x157, .int .i64 x158, .int .i64 x159]) _ c173).mono (by rintro v H' ⟨_, rfl, rfl, rfl⟩; exact ⟨rfl, rfl⟩)) ?_
                    refine SQ.val (v := pv (some (b161, 2))) rfl (wantY (c := (x122 == x169)) rfl rfl rfl dc171) (fun _ => by kernel_rfl) ?_
                    obtain ⟨x174, c175, h⟩ := h
                    refine SQ.rd (v := .int .i64 x174) rfl (wantY (c := (x122 == x169)) rfl rfl rfl dc171) (fun w hw => ev_load1 rfl (fun _ => by kernel_rfl) (p := (b161, 2)) rfl c175 w hw) ?_
                    refine SQ.val (v := .bool (x172 == x174)) rfl (wantY (c := (x122 == x169)) rfl rfl rfl dc171) (fun _ => by kernel_rfl) ?_
                    refine SQ.val (v := .bool (x172 == x174)) rfl (wantN rfl) (fun w => ev_pickT (v := .bool (x172 == x174)) rfl (t := (x122 == x169)) rfl dc171 rfl w) ?_
                    refine SQ.val (v := .bool (x172 == x174)) rfl (wantN rfl) (fun _ => by kernel_rfl) ?_
                    by_cases c176 : x172 = x174
                    · replace h := h.1 c176
                      have dc176 : (x172 == x174) = true := (beq_iff_eq.mpr c176)
                      refine SQ.val (v := pv (some (b161, 2))) rfl (wantY (c := (x172 == x174)) rfl rfl rfl dc176) (fun _ => by kernel_rfl) ?_
                      obtain ⟨x177, c178, h⟩ := h
                      refine SQ.rd (v := .int .i64 x177) rfl (wantY (c := (x172 == x174)) rfl rfl rfl dc176) (fun w hw => ev_load1 rfl (fun _ => by kernel_rfl) (p := (b161, 2)) rfl c178 w hw) ?_
                      refine SQ.val (v := .bool (x177 == 0)) rfl (wantY (c := (x172 == x174)) rfl rfl rfl dc176) (fun _ => by kernel_rfl) ?_
                      refine SQ.val (v := .bool (x177 == 0)) rfl (wantY (c := (x172 == x174)) rfl rfl rfl dc176) (fun _ => by kernel_rfl) ?_
                      by_cases c179 : x177 = 0
                      · replace h := h.1 c179
                        have dc179 : (x177 == 0) = true := (beq_iff_eq.mpr c179)
                        refine SQ.off rfl (wantX (c := (x177 == 0)) rfl rfl rfl dc179) ?_
                        refine SQ.off rfl (wantX (c := (x177 == 0)) rfl rfl rfl dc179) ?_
                        refine SQ.off rfl (wantX (c := (x177 == 0)) rfl rfl rfl dc179) ?_
                        refine SQ.off rfl (wantX (c := (x177 == 0)) rfl rfl rfl dc179) ?_
                        refine SQ.off rfl (wantX (c := (x177 == 0)) rfl rfl rfl dc179) ?_
                        refine SQ.val (v := .bool true) rfl (wantY (c := (x172 == x174)) rfl rfl rfl dc176) (fun w => ev_pickT (v := .bool true) rfl (t := (x177 == 0)) rfl dc179 rfl w) ?_
                        refine SQ.val (v := .bool true) rfl (wantN rfl) (fun w => ev_pickT (v := .bool true) rfl (t := (x172 == x174)) rfl dc176 rfl w) ?_
                        refine SQ.val (v := .bool true) rfl (wantN rfl) (fun _ => by kernel_rfl) ?_
                        refine SQ.nil ?_
                        obtain ⟨Hr, hr, h⟩ := h
                        exact SW.ret (retQ.mk (.bool true) (res1 rfl rfl) hr ⟨true, rfl, h⟩)
                      · replace h := h.2 c179
                        have dc179 : (x177 == 0) = false := (beq_eq_false_iff_ne.mpr c179)
                        refine SQ.val (v := errV e123) rfl (wantY (c := (x177 == 0)) rfl rfl rfl dc179) (fun _ => by kernel_rfl) ?_
                        obtain ⟨x180, c181, h⟩ := h
                        refine SQ.enter (v := .int .i64 x180) rfl (wantY (c := (x177 == 0)) rfl rfl rfl dc179) (fun _ => by kernel_rfl) ((api_Place.sound F e123 (SH.setl (SH.upd H160 b161 ⟨[sv Sl.nil, .int .i64 0, .int .i64 0, .int .i64 0], 65, false, 4⟩) (b161, 0) [sv l156, .int .i64 x157, .int .i64 x158, .int .i64 x159]) _ c181).mono (by rintro v H' ⟨_, rfl, rfl, rfl⟩; exact ⟨rfl, rfl⟩)) ?_
                        refine SQ.val (v := pv (some (b161, 3))) rfl (wantY (c := (x177 == 0)) rfl rfl rfl dc179) (fun _ => by kernel_rfl) ?_
                        obtain ⟨x182, c183, h⟩ := h
                        refine SQ.rd (v := .int .i64 x182) rfl (wantY (c := (x177 == 0)) rfl rfl rfl dc179) (fun w hw => ev_load1 rfl (fun _ => by kernel_rfl) (p := (b161, 3)) rfl c183 w hw) ?_
                        refine SQ.val (v := .bool (x180 == x182)) rfl (wantY (c := (x177 == 0)) rfl rfl rfl dc179) (fun _ => by kernel_rfl) ?_
                        refine SQ.val (v := .bool (x180 == x182)) rfl (wantY (c := (x172 == x174)) rfl rfl rfl dc176) (fun w => ev_pickF (v := .bool (x180 == x182)) rfl (t := (x177 == 0)) rfl dc179 rfl w) ?_
                        refine SQ.val (v := .bool (x180 == x182)) rfl (wantN rfl) (fun w => ev_pickT (v := .bool (x180 == x182)) rfl (t := (x172 == x174)) rfl dc176 rfl w) ?_
                        refine SQ.val (v := .bool (x180 == x182)) rfl (wantN rfl) (fun _ => by kernel_rfl) ?_
                        refine SQ.nil ?_
                        obtain ⟨Hr, hr, h⟩ := h
                        exact SW.ret (retQ.mk (.bool (x180 == x182)) (res1 rfl rfl) hr ⟨(x180 == x182), rfl, h⟩)
                    · replace h := h.2 c176
                      have dc176 : (x172 == x174) = false := (beq_eq_false_iff_ne.mpr c176)
                      refine SQ.off rfl (wantX (c := (x172 == x174)) rfl rfl rfl dc176) ?_
                      refine SQ.off rfl (wantX (c := (x172 == x174)) rfl rfl rfl dc176) ?_
                      refine SQ.off rfl (wantX (c := (x172 == x174)) rfl rfl rfl dc176) ?_
                      refine SQ.off rfl (wantX (c := (x172 == x174)) rfl rfl rfl dc176) ?_
                      refine SQ.off rfl (wantU rfl rfl rfl) ?_
                      refine SQ.off rfl (wantU rfl rfl rfl) ?_
                      refine SQ.off rfl (wantU rfl rfl rfl) ?_
                      refine SQ.off rfl (wantU rfl rfl rfl) ?_
                      refine SQ.off rfl (wantU rfl rfl rfl) ?_
                      refine SQ.off rfl (wantX (c := (x172 == x174)) rfl rfl rfl dc176) ?_
                      refine SQ.val (v := .bool false) rfl (wantN rfl) (fun w => ev_pickF (v := .bool false) rfl (t := (x172 == x174)) rfl dc176 rfl w) ?_
                      refine SQ.val (v := .bool false) rfl (wantN rfl) (fun _ => by kernel_rfl) ?_
                      refine SQ.nil ?_
                      obtain ⟨Hr, hr, h⟩ := h
                      exact SW.ret (retQ.mk (.bool false) (res1 rfl rfl) hr ⟨false, rfl, h⟩)
                  · replace h := h.2 c171
                    have dc171 : (x122 == x169) = false := (beq_eq_false_iff_ne.mpr c171)
                    refine SQ.off rfl (wantX (c := (x122 == x169)) rfl rfl rfl dc171) ?_
                    refine SQ.off rfl (wantX (c := (x122 == x169)) rfl rfl rfl dc171) ?_
                    refine SQ.off rfl (wantX (c := (x122 == x169)) rfl rfl rfl dc171) ?_
                    refine SQ.off rfl (wantX (c := (x122 == x169)) rfl rfl rfl dc171) ?_
                    refine SQ.off rfl (wantX (c := (x122 == x169)) rfl rfl rfl dc171) ?_
                    refine SQ.val (v := .bool false) rfl (wantN rfl) (fun w => ev_pickF (v := .bool false) rfl (t := (x122 == x169)) rfl dc171 rfl w) ?_
                    refine SQ.val (v := .bool false) rfl (wantN rfl) (fun _ => by kernel_rfl) ?_
                    refine SQ.off rfl (wantX (c := false) rfl rfl rfl rfl) ?_
                    refine SQ.off rfl (wantX (c := false) rfl rfl rfl rfl) ?_
                    refine SQ.off rfl (wantX (c := false) rfl rfl rfl rfl) ?_
                    refine SQ.off rfl (wantX (c := false) rfl rfl rfl rfl) ?_
                    refine SQ.off rfl (wantU rfl rfl rfl) ?_
                    refine SQ.off rfl (wantU rfl rfl rfl) ?_
                    refine SQ.off rfl (wantU rfl rfl rfl) ?_
                    refine SQ.off rfl (wantU rfl rfl rfl) ?_
                    refine SQ.off rfl (wantU rfl rfl rfl) ?_
                    refine SQ.off rfl (wantX (c := false) rfl rfl rfl rfl) ?_
                    refine SQ.val (v := .bool false) rfl (wantN rfl) (fun w => ev_pickF (v := .bool false) rfl (t := false) rfl rfl rfl w) ?_
                    refine SQ.val (v := .bool false) rfl (wantN rfl) (fun _ => by kernel_rfl) ?_
                    refine SQ.nil ?_
                    obtain ⟨Hr, hr, h⟩ := h
                    exact SW.ret (retQ.mk (.bool false) (res1 rfl rfl) hr ⟨false, rfl, h⟩)
                · replace h := h.2 c168
                  have dc168 : q166 = false := (Bool.eq_false_iff.mpr c168)
                  refine SQ.off rfl (wantX (c := q166) rfl rfl rfl dc168) ?_
                  refine SQ.off rfl (wantX (c := q166) rfl rfl rfl dc168) ?_
                  refine SQ.off rfl (wantX (c := q166) rfl rfl rfl dc168) ?_
                  refine SQ.off rfl (wantX (c := q166) rfl rfl rfl dc168) ?_
                  refine SQ.val (v := .bool false) rfl (wantN rfl) (fun w => ev_pickF (v := .bool false) rfl (t := q166) rfl dc168 rfl w) ?_
                  refine SQ.val (v := .bool false) rfl (wantN rfl) (fun _ => by kernel_rfl) ?_
                  refine SQ.off rfl (wantX (c := false) rfl rfl rfl rfl) ?_
                  refine SQ.off rfl (wantX (c := false) rfl rfl rfl rfl) ?_
                  refine SQ.off rfl (wantX (c := false) rfl rfl rfl rfl) ?_
                  refine SQ.off rfl (wantX (c := false) rfl rfl rfl rfl) ?_
                  refine SQ.off rfl (wantX (c := false) rfl rfl rfl rfl) ?_
                  refine SQ.val (v := .bool false) rfl (wantN rfl) (fun w => ev_pickF (v := .bool false) rfl (t := false) rfl rfl rfl w) ?_
                  refine SQ.val (v := .bool false) rfl (wantN rfl) (fun _ => by kernel_rfl) ?_
                  refine SQ.off rfl (wantX (c := false) rfl rfl rfl rfl) ?_
                  refine SQ.off rfl (wantX (c := false) rfl rfl rfl rfl) ?_
                  refine SQ.off rfl (wantX (c := false) rfl rfl rfl rfl) ?_
                  refine SQ.off rfl (wantX (c := false) rfl rfl rfl rfl) ?_
                  refine SQ.off rfl (wantU rfl rfl rfl) ?_
                  refine SQ.off rfl (wantU rfl rfl rfl) ?_
                  refine SQ.off rfl (wantU rfl rfl rfl) ?_
                  refine SQ.off rfl (wantU rfl rfl rfl) ?_
                  refine SQ.off rfl (wantU rfl rfl rfl) ?_
                  refine SQ.off rfl (wantX (c := false) rfl rfl rfl rfl) ?_
                  refine SQ.val (v := .bool false) rfl (wantN rfl) (fun w => ev_pickF (v := .bool false) rfl (t := false) rfl rfl rfl w) ?_
                  refine SQ.val (v := .bool false) rfl (wantN rfl) (fun _ => by kernel_rfl) ?_
                  refine SQ.nil ?_
                  obtain ⟨Hr, hr, h⟩ := h
                  exact SW.ret (retQ.mk (.bool false) (res1 rfl rfl) hr ⟨false, rfl, h⟩)
          · skip
            refine SW.seq ?_
            refine SW.draw (by kernel_rfl) (by kernel_rfl) ?_
            refine SQ.val (v := .int .i64 x22) rfl (wantN rfl) (fun _ => by kernel_rfl) ?_
            refine SQ.val (v := pv (some (b79, 0))) rfl (wantN rfl) (fun _ => by kernel_rfl) ?_
            obtain ⟨x85, c86, h⟩ := h
            refine SQ.rd (v := .int .i64 x85) rfl (wantN rfl) (fun w hw => ev_load1 rfl (fun _ => by kernel_rfl) (p := (b79, 0)) rfl c86 w hw) ?_
            refine SQ.val (v := .bool (x22 != x85)) rfl (wantN rfl) (fun _ => by kernel_rfl) ?_
            refine SQ.val (v := .bool (x22 != x85)) rfl (wantN rfl) (fun _ => by kernel_rfl) ?_
            by_cases c87 : x22 ≠ x85
            · replace h := h.1 c87
              have dc87 : (x22 != x85) = true := (bne_iff_ne.mpr c87)
              refine SQ.off rfl (wantX (c := (x22 != x85)) rfl rfl rfl dc87) ?_
              refine SQ.off rfl (wantX (c := (x22 != x85)) rfl rfl rfl dc87) ?_
              refine SQ.off rfl (wantX (c := (x22 != x85)) rfl rfl rfl dc87) ?_
              refine SQ.off rfl (wantX (c := (x22 != x85)) rfl rfl rfl dc87) ?_
              refine SQ.off rfl (wantX (c := (x22 != x85)) rfl rfl rfl dc87) ?_
              refine SQ.val (v := .bool true) rfl (wantN rfl) (fun w => ev_pickT (v := .bool true) rfl (t := (x22 != x85)) rfl dc87 rfl w) ?_
              refine SQ.val (v := .bool true) rfl (wantN rfl) (fun _ => by kernel_rfl) ?_
              refine SQ.off rfl (wantX (c := true) rfl rfl rfl rfl) ?_
              refine SQ.off rfl (wantX (c := true) rfl rfl rfl rfl) ?_
              refine SQ.off rfl (wantX (c := true) rfl rfl rfl rfl) ?_
              refine SQ.off rfl (wantX (c := true) rfl rfl rfl rfl) ?_
              refine SQ.off rfl (wantU rfl rfl rfl) ?_
              refine SQ.off rfl (wantU rfl rfl rfl) ?_
              refine SQ.off rfl (wantU rfl rfl rfl) ?_
              refine SQ.off rfl (wantU rfl rfl rfl) ?_
              refine SQ.off rfl (wantU rfl rfl rfl) ?_
              refine SQ.off rfl (wantX (c := true) rfl rfl rfl rfl) ?_
              refine SQ.val (v := .bool true) rfl (wantN rfl) (fun w => ev_pickT (v := .bool true) rfl (t := true) rfl rfl rfl w) ?_
              refine SQ.val (v := .bool true) rfl (wantN rfl) (fun _ => by kernel_rfl) ?_
              refine SQ.off rfl (wantX (c := true) rfl rfl rfl rfl) ?_
              refine SQ.off rfl (wantX (c := true) rfl rfl rfl rfl) ?_
              refine SQ.off rfl (wantX (c := true) rfl rfl rfl rfl) ?_
              refine SQ.off rfl (wantX (c := true) rfl rfl rfl rfl) ?_
              refine SQ.val (v := .bool true) rfl (wantN rfl) (fun w => ev_pickT (v := .bool true) rfl (t := true) rfl rfl rfl w) ?_
              refine SQ.val (v := .bool true) rfl (wantN rfl) (fun _ => by kernel_rfl) ?_
              refine SQ.off rfl (wantX (c := true) rfl rfl rfl rfl) ?_
              refine SQ.off rfl (wantX (c := true) rfl rfl rfl rfl) ?_
              refine SQ.off rfl (wantX (c := true) rfl rfl rfl rfl) ?_
              refine SQ.off rfl (wantX (c := true) rfl rfl rfl rfl) ?_
              refine SQ.off rfl (wantX (c := true) rfl rfl rfl rfl) ?_
              refine SQ.val (v := .bool true) rfl (wantN rfl) (fun w => ev_pickT (v := .bool true) rfl (t := true) rfl rfl rfl w) ?_
              refine SQ.val (v := .bool true) rfl (wantN rfl) (fun _ => by kernel_rfl) ?_
              refine SQ.off rfl (wantX (c := true) rfl rfl rfl rfl) ?_
              refine SQ.off rfl (wantX (c := true) rfl rfl rfl rfl) ?_
              refine SQ.off rfl (wantX (c := true) rfl rfl rfl rfl) ?_
              refine SQ.off rfl (wantX (c := true) rfl rfl rfl rfl) ?_
              refine SQ.off rfl (wantU rfl rfl rfl) ?_
              refine SQ.off rfl (wantU rfl rfl rfl) ?_
              refine SQ.off rfl (wantU rfl rfl rfl) ?_
              refine SQ.off rfl (wantU rfl rfl rfl) ?_
              refine SQ.off rfl (wantU rfl rfl rfl) ?_
              refine SQ.off rfl (wantX (c := true) rfl rfl rfl rfl) ?_
              refine SQ.val (v := .bool true) rfl (wantN rfl) (fun w => ev_pickT (v := .bool true) rfl (t := true) rfl rfl rfl w) ?_
              refine SQ.nil ?_
              refine SW.cond_t (t := true) rfl rfl ?_
              refine SW.seq ?_
              refine SW.region ?_
              refine SOps.val (v := .bool false) rfl (wantN rfl) (fun _ => by kernel_rfl) ?_
              refine SOps.nil ?_
              obtain ⟨Hr, hr, h⟩ := h
              exact SW.ret (retQ.mk (.bool false) (res1 rfl rfl) hr ⟨false, rfl, h⟩)
            · replace h := h.2 c87
              have dc87 : (x22 != x85) = false := (by simpa using c87)
              refine SQ.val (v := errV e23) rfl (wantY (c := (x22 != x85)) rfl rfl rfl dc87) (fun _ => by kernel_rfl) ?_
              obtain ⟨x88, c89, h⟩ := h
              refine SQ.enter (v := .int .i64 x88) rfl (wantY (c := (x22 != x85)) rfl rfl rfl dc87) (fun _ => by kernel_rfl) ((api_Code.sound F e23 (SH.setl (SH.setl (SH.upd (SH.upd H78 b79 ⟨[.int .i64 0, .int .i64 0, .int .i64 0, .int .i64 0], 62, false, 4⟩) b81 ⟨[sv Sl.nil, .int .i64 0, .int .i64 0, .int .i64 0], 65, false, 4⟩) (b79, 0) [.int .i64 x69, .int .i64 x70, .int .i64 x71, .int .i64 x72]) (b81, 0) [sv l74, .int .i64 x75, .int .i64 x76, .int .i64 x77]) _ c89).mono (by rintro v H' ⟨_, rfl, rfl, rfl⟩; exact ⟨rfl, rfl⟩)) ?_
              refine SQ.val (v := pv (some (b79, 2))) rfl (wantY (c := (x22 != x85)) rfl rfl rfl dc87) (fun _ => by kernel_rfl) ?_
              obtain ⟨x90, c91, h⟩ := h
              refine SQ.rd (v := .int .i64 x90) rfl (wantY (c := (x22 != x85)) rfl rfl rfl dc87) (fun w hw => ev_load1 rfl (fun _ => by kernel_rfl) (p := (b79, 2)) rfl c91 w hw) ?_
              refine SQ.val (v := .bool (x88 != x90)) rfl (wantY (c := (x22 != x85)) rfl rfl rfl dc87) (fun _ => by kernel_rfl) ?_
              refine SQ.val (v := .bool (x88 != x90)) rfl (wantN rfl) (fun w => ev_pickF (v := .bool (x88 != x90)) rfl (t := (x22 != x85)) rfl dc87 rfl w) ?_
              refine SQ.val (v := .bool (x88 != x90)) rfl (wantN rfl) (fun _ => by kernel_rfl) ?_
              by_cases c92 : x88 ≠ x90
              · replace h := h.1 c92
                have dc92 : (x88 != x90) = true := (bne_iff_ne.mpr c92)
                refine SQ.off rfl (wantX (c := (x88 != x90)) rfl rfl rfl dc92) ?_
                refine SQ.off rfl (wantX (c := (x88 != x90)) rfl rfl rfl dc92) ?_
                refine SQ.off rfl (wantX (c := (x88 != x90)) rfl rfl rfl dc92) ?_
                refine SQ.off rfl (wantX (c := (x88 != x90)) rfl rfl rfl dc92) ?_
                refine SQ.off rfl (wantU rfl rfl rfl) ?_
                refine SQ.off rfl (wantU rfl rfl rfl) ?_
                refine SQ.off rfl (wantU rfl rfl rfl) ?_
                refine SQ.off rfl (wantU rfl rfl rfl) ?_
                refine SQ.off rfl (wantU rfl rfl rfl) ?_
                refine SQ.off rfl (wantX (c := (x88 != x90)) rfl rfl rfl dc92) ?_
                refine SQ.val (v := .bool true) rfl (wantN rfl) (fun w => ev_pickT (v := .bool true) rfl (t := (x88 != x90)) rfl dc92 rfl w) ?_
                refine SQ.val (v := .bool true) rfl (wantN rfl) (fun _ => by kernel_rfl) ?_
                refine SQ.off rfl (wantX (c := true) rfl rfl rfl rfl) ?_
                refine SQ.off rfl (wantX (c := true) rfl rfl rfl rfl) ?_
                refine SQ.off rfl (wantX (c := true) rfl rfl rfl rfl) ?_
                refine SQ.off rfl (wantX (c := true) rfl rfl rfl rfl) ?_
                refine SQ.val (v := .bool true) rfl (wantN rfl) (fun w => ev_pickT (v := .bool true) rfl (t := true) rfl rfl rfl w) ?_
                refine SQ.val (v := .bool true) rfl (wantN rfl) (fun _ => by kernel_rfl) ?_
                refine SQ.off rfl (wantX (c := true) rfl rfl rfl rfl) ?_
                refine SQ.off rfl (wantX (c := true) rfl rfl rfl rfl) ?_
                refine SQ.off rfl (wantX (c := true) rfl rfl rfl rfl) ?_
                refine SQ.off rfl (wantX (c := true) rfl rfl rfl rfl) ?_
                refine SQ.off rfl (wantX (c := true) rfl rfl rfl rfl) ?_
                refine SQ.val (v := .bool true) rfl (wantN rfl) (fun w => ev_pickT (v := .bool true) rfl (t := true) rfl rfl rfl w) ?_
                refine SQ.val (v := .bool true) rfl (wantN rfl) (fun _ => by kernel_rfl) ?_
                refine SQ.off rfl (wantX (c := true) rfl rfl rfl rfl) ?_
                refine SQ.off rfl (wantX (c := true) rfl rfl rfl rfl) ?_
                refine SQ.off rfl (wantX (c := true) rfl rfl rfl rfl) ?_
                refine SQ.off rfl (wantX (c := true) rfl rfl rfl rfl) ?_
                refine SQ.off rfl (wantU rfl rfl rfl) ?_
                refine SQ.off rfl (wantU rfl rfl rfl) ?_
                refine SQ.off rfl (wantU rfl rfl rfl) ?_
                refine SQ.off rfl (wantU rfl rfl rfl) ?_
                refine SQ.off rfl (wantU rfl rfl rfl) ?_
                refine SQ.off rfl (wantX (c := true) rfl rfl rfl rfl) ?_
                refine SQ.val (v := .bool true) rfl (wantN rfl) (fun w => ev_pickT (v := .bool true) rfl (t := true) rfl rfl rfl w) ?_
                refine SQ.nil ?_
                refine SW.cond_t (t := true) rfl rfl ?_
                refine SW.seq ?_
                refine SW.region ?_
                refine SOps.val (v := .bool false) rfl (wantN rfl) (fun _ => by kernel_rfl) ?_
                refine SOps.nil ?_
                obtain ⟨Hr, hr, h⟩ := h
                exact SW.ret (retQ.mk (.bool false) (res1 rfl rfl) hr ⟨false, rfl, h⟩)
              · replace h := h.2 c92
                have dc92 : (x88 != x90) = false := (by simpa using c92)
                refine SQ.val (v := pv (some (b79, 2))) rfl (wantY (c := (x88 != x90)) rfl rfl rfl dc92) (fun _ => by kernel_rfl) ?_
                obtain ⟨x93, c94, h⟩ := h
                refine SQ.rd (v := .int .i64 x93) rfl (wantY (c := (x88 != x90)) rfl rfl rfl dc92) (fun w hw => ev_load1 rfl (fun _ => by kernel_rfl) (p := (b79, 2)) rfl c94 w hw) ?_
                refine SQ.val (v := .bool (x93 != 0)) rfl (wantY (c := (x88 != x90)) rfl rfl rfl dc92) (fun _ => by kernel_rfl) ?_
                refine SQ.val (v := .bool (x93 != 0)) rfl (wantY (c := (x88 != x90)) rfl rfl rfl dc92) (fun _ => by kernel_rfl) ?_
                by_cases c95 : x93 ≠ 0
                · replace h := h.1 c95
                  have dc95 : (x93 != 0) = true := (bne_iff_ne.mpr c95)
                  refine SQ.val (v := errV e23) rfl (wantY (c := (x93 != 0)) rfl rfl rfl dc95) (fun _ => by kernel_rfl) ?_
                  obtain ⟨x96, c97, h⟩ := h
                  refine SQ.enter (v := .int .i64 x96) rfl (wantY (c := (x93 != 0)) rfl rfl rfl dc95) (fun _ => by kernel_rfl) ((api_Place.sound F e23 (SH.setl (SH.setl (SH.upd (SH.upd H78 b79 ⟨[.int .i64 0, .int .i64 0, .int .i64 0, .int .i64 0], 62, false, 4⟩) b81 ⟨[sv Sl.nil, .int .i64 0, .int .i64 0, .int .i64 0], 65, false, 4⟩) (b79, 0) [.int .i64 x69, .int .i64 x70, .int .i64 x71, .int .i64 x72]) (b81, 0) [sv l74, .int .i64 x75, .int .i64 x76, .int .i64 x77]) _ c97).mono (by rintro v H' ⟨_, rfl, rfl, rfl⟩; exact ⟨rfl, rfl⟩)) ?_
                  refine SQ.val (v := pv (some (b79, 3))) rfl (wantY (c := (x93 != 0)) rfl rfl rfl dc95) (fun _ => by kernel_rfl) ?_
                  obtain ⟨x98, c99, h⟩ := h
                  refine SQ.rd (v := .int .i64 x98) rfl (wantY (c := (x93 != 0)) rfl rfl rfl dc95) (fun w hw => ev_load1 rfl (fun _ => by kernel_rfl) (p := (b79, 3)) rfl c99 w hw) ?_
                  refine SQ.val (v := .bool (x96 != x98)) rfl (wantY (c := (x93 != 0)) rfl rfl rfl dc95) (fun _ => by kernel_rfl) ?_
                  refine SQ.val (v := .bool (x96 != x98)) rfl (wantY (c := (x88 != x90)) rfl rfl rfl dc92) (fun w => ev_pickT (v := .bool (x96 != x98)) rfl (t := (x93 != 0)) rfl dc95 rfl w) ?_
                  refine SQ.val (v := .bool (x96 != x98)) rfl (wantN rfl) (fun w => ev_pickF (v := .bool (x96 != x98)) rfl (t := (x88 != x90)) rfl dc92 rfl w) ?_
                  refine SQ.val (v := .bool (x96 != x98)) rfl (wantN rfl) (fun _ => by kernel_rfl) ?_
                  by_cases c100 : x96 ≠ x98
                  · replace h := h.1 c100
                    have dc100 : (x96 != x98) = true := (bne_iff_ne.mpr c100)
                    refine SQ.off rfl (wantX (c := (x96 != x98)) rfl rfl rfl dc100) ?_
                    refine SQ.off rfl (wantX (c := (x96 != x98)) rfl rfl rfl dc100) ?_
                    refine SQ.off rfl (wantX (c := (x96 != x98)) rfl rfl rfl dc100) ?_
                    refine SQ.off rfl (wantX (c := (x96 != x98)) rfl rfl rfl dc100) ?_
                    refine SQ.val (v := .bool true) rfl (wantN rfl) (fun w => ev_pickT (v := .bool true) rfl (t := (x96 != x98)) rfl dc100 rfl w) ?_
                    refine SQ.val (v := .bool true) rfl (wantN rfl) (fun _ => by kernel_rfl) ?_
                    refine SQ.off rfl (wantX (c := true) rfl rfl rfl rfl) ?_
                    refine SQ.off rfl (wantX (c := true) rfl rfl rfl rfl) ?_
                    refine SQ.off rfl (wantX (c := true) rfl rfl rfl rfl) ?_
                    refine SQ.off rfl (wantX (c := true) rfl rfl rfl rfl) ?_
                    refine SQ.off rfl (wantX (c := true) rfl rfl rfl rfl) ?_
                    refine SQ.val (v := .bool true) rfl (wantN rfl) (fun w => ev_pickT (v := .bool true) rfl (t := true) rfl rfl rfl w) ?_
                    refine SQ.val (v := .bool true) rfl (wantN rfl) (fun _ => by kernel_rfl) ?_
                    refine SQ.off rfl (wantX (c := true) rfl rfl rfl rfl) ?_
                    refine SQ.off rfl (wantX (c := true) rfl rfl rfl rfl) ?_
                    refine SQ.off rfl (wantX (c := true) rfl rfl rfl rfl) ?_
                    refine SQ.off rfl (wantX (c := true) rfl rfl rfl rfl) ?_
                    refine SQ.off rfl (wantU rfl rfl rfl) ?_
                    refine SQ.off rfl (wantU rfl rfl rfl) ?_
                    refine SQ.off rfl (wantU rfl rfl rfl) ?_
                    refine SQ.off rfl (wantU rfl rfl rfl) ?_
                    refine SQ.off rfl (wantU rfl rfl rfl) ?_
                    refine SQ.off rfl (wantX (c := true) rfl rfl rfl rfl) ?_
                    refine SQ.val (v := .bool true) rfl (wantN rfl) (fun w => ev_pickT (v := .bool true) rfl (t := true) rfl rfl rfl w) ?_
                    refine SQ.nil ?_
                    refine SW.cond_t (t := true) rfl rfl ?_
                    refine SW.seq ?_
                    refine SW.region ?_
                    refine SOps.val (v := .bool false) rfl (wantN rfl) (fun _ => by kernel_rfl) ?_
                    refine SOps.nil ?_
                    obtain ⟨Hr, hr, h⟩ := h
                    exact SW.ret (retQ.mk (.bool false) (res1 rfl rfl) hr ⟨false, rfl, h⟩)
                  · replace h := h.2 c100
                    have dc100 : (x96 != x98) = false := (by simpa using c100)
                    refine SQ.val (v := .int .i64 x19) rfl (wantY (c := (x96 != x98)) rfl rfl rfl dc100) (fun _ => by kernel_rfl) ?_
                    refine SQ.val (v := pv (some (b81, 1))) rfl (wantY (c := (x96 != x98)) rfl rfl rfl dc100) (fun _ => by kernel_rfl) ?_
                    obtain ⟨x101, c102, h⟩ := h
                    refine SQ.rd (v := .int .i64 x101) rfl (wantY (c := (x96 != x98)) rfl rfl rfl dc100) (fun w hw => ev_load1 rfl (fun _ => by kernel_rfl) (p := (b81, 1)) rfl c102 w hw) ?_
                    refine SQ.val (v := .bool (x19 != x101)) rfl (wantY (c := (x96 != x98)) rfl rfl rfl dc100) (fun _ => by kernel_rfl) ?_
                    refine SQ.val (v := .bool (x19 != x101)) rfl (wantN rfl) (fun w => ev_pickF (v := .bool (x19 != x101)) rfl (t := (x96 != x98)) rfl dc100 rfl w) ?_
                    refine SQ.val (v := .bool (x19 != x101)) rfl (wantN rfl) (fun _ => by kernel_rfl) ?_
                    by_cases c103 : x19 ≠ x101
                    · replace h := h.1 c103
                      have dc103 : (x19 != x101) = true := (bne_iff_ne.mpr c103)
                      refine SQ.off rfl (wantX (c := (x19 != x101)) rfl rfl rfl dc103) ?_
                      refine SQ.off rfl (wantX (c := (x19 != x101)) rfl rfl rfl dc103) ?_
                      refine SQ.off rfl (wantX (c := (x19 != x101)) rfl rfl rfl dc103) ?_
                      refine SQ.off rfl (wantX (c := (x19 != x101)) rfl rfl rfl dc103) ?_
                      refine SQ.off rfl (wantX (c := (x19 != x101)) rfl rfl rfl dc103) ?_
                      refine SQ.val (v := .bool true) rfl (wantN rfl) (fun w => ev_pickT (v := .bool true) rfl (t := (x19 != x101)) rfl dc103 rfl w) ?_
                      refine SQ.val (v := .bool true) rfl (wantN rfl) (fun _ => by kernel_rfl) ?_
                      refine SQ.off rfl (wantX (c := true) rfl rfl rfl rfl) ?_
                      refine SQ.off rfl (wantX (c := true) rfl rfl rfl rfl) ?_
                      refine SQ.off rfl (wantX (c := true) rfl rfl rfl rfl) ?_
                      refine SQ.off rfl (wantX (c := true) rfl rfl rfl rfl) ?_
                      refine SQ.off rfl (wantU rfl rfl rfl) ?_
                      refine SQ.off rfl (wantU rfl rfl rfl) ?_
                      refine SQ.off rfl (wantU rfl rfl rfl) ?_
                      refine SQ.off rfl (wantU rfl rfl rfl) ?_
                      refine SQ.off rfl (wantU rfl rfl rfl) ?_
                      refine SQ.off rfl (wantX (c := true) rfl rfl rfl rfl) ?_
                      refine SQ.val (v := .bool true) rfl (wantN rfl) (fun w => ev_pickT (v := .bool true) rfl (t := true) rfl rfl rfl w) ?_
                      refine SQ.nil ?_
                      refine SW.cond_t (t := true) rfl rfl ?_
                      refine SW.seq ?_
                      refine SW.region ?_
                      refine SOps.val (v := .bool false) rfl (wantN rfl) (fun _ => by kernel_rfl) ?_
                      refine SOps.nil ?_
                      obtain ⟨Hr, hr, h⟩ := h
                      exact SW.ret (retQ.mk (.bool false) (res1 rfl rfl) hr ⟨false, rfl, h⟩)
                    · replace h := h.2 c103
                      have dc103 : (x19 != x101) = false := (by simpa using c103)
                      refine SQ.val (v := errV e20) rfl (wantY (c := (x19 != x101)) rfl rfl rfl dc103) (fun _ => by kernel_rfl) ?_
                      obtain ⟨x104, c105, h⟩ := h
                      refine SQ.enter (v := .int .i64 x104) rfl (wantY (c := (x19 != x101)) rfl rfl rfl dc103) (fun _ => by kernel_rfl) ((api_Code.sound F e20 (SH.setl (SH.setl (SH.upd (SH.upd H78 b79 ⟨[.int .i64 0, .int .i64 0, .int .i64 0, .int .i64 0], 62, false, 4⟩) b81 ⟨[sv Sl.nil, .int .i64 0, .int .i64 0, .int .i64 0], 65, false, 4⟩) (b79, 0) [.int .i64 x69, .int .i64 x70, .int .i64 x71, .int .i64 x72]) (b81, 0) [sv l74, .int .i64 x75, .int .i64 x76, .int .i64 x77]) _ c105).mono (by rintro v H' ⟨_, rfl, rfl, rfl⟩; exact ⟨rfl, rfl⟩)) ?_
                      refine SQ.val (v := pv (some (b81, 2))) rfl (wantY (c := (x19 != x101)) rfl rfl rfl dc103) (fun _ => by kernel_rfl) ?_
                      obtain ⟨x106, c107, h⟩ := h
                      refine SQ.rd (v := .int .i64 x106) rfl (wantY (c := (x19 != x101)) rfl rfl rfl dc103) (fun w hw => ev_load1 rfl (fun _ => by kernel_rfl) (p := (b81, 2)) rfl c107 w hw) ?_
                      refine SQ.val (v := .bool (x104 != x106)) rfl (wantY (c := (x19 != x101)) rfl rfl rfl dc103) (fun _ => by kernel_rfl) ?_
                      refine SQ.val (v := .bool (x104 != x106)) rfl (wantN rfl) (fun w => ev_pickF (v := .bool (x104 != x106)) rfl (t := (x19 != x101)) rfl dc103 rfl w) ?_
                      refine SQ.val (v := .bool (x104 != x106)) rfl (wantN rfl) (fun _ => by kernel_rfl) ?_
                      by_cases c108 : x104 ≠ x106
                      · replace h := h.1 c108
                        have dc108 : (x104 != x106) = true := (bne_iff_ne.mpr c108)
                        refine SQ.off rfl (wantX (c := (x104 != x106)) rfl rfl rfl dc108) ?_
                        refine SQ.off rfl (wantX (c := (x104 != x106)) rfl rfl rfl dc108) ?_
                        refine SQ.off rfl (wantX (c := (x104 != x106)) rfl rfl rfl dc108) ?_
                        refine SQ.off rfl (wantX (c := (x104 != x106)) rfl rfl rfl dc108) ?_
                        refine SQ.off rfl (wantU rfl rfl rfl) ?_
                        refine SQ.off rfl (wantU rfl rfl rfl) ?_
                        refine SQ.off rfl (wantU rfl rfl rfl) ?_
                        refine SQ.off rfl (wantU rfl rfl rfl) ?_
                        refine SQ.off rfl (wantU rfl rfl rfl) ?_
                        refine SQ.off rfl (wantX (c := (x104 != x106)) rfl rfl rfl dc108) ?_
                        refine SQ.val (v := .bool true) rfl (wantN rfl) (fun w => ev_pickT (v := .bool true) rfl (t := (x104 != x106)) rfl dc108 rfl w) ?_
                        refine SQ.nil ?_
                        refine SW.cond_t (t := true) rfl rfl ?_
                        refine SW.seq ?_
                        refine SW.region ?_
                        refine SOps.val (v := .bool false) rfl (wantN rfl) (fun _ => by kernel_rfl) ?_
                        refine SOps.nil ?_
                        obtain ⟨Hr, hr, h⟩ := h
                        exact SW.ret (retQ.mk (.bool false) (res1 rfl rfl) hr ⟨false, rfl, h⟩)
                      · replace h := h.2 c108
                        have dc108 : (x104 != x106) = false := (by simpa using c108)
                        refine SQ.val (v := pv (some (b81, 2))) rfl (wantY (c := (x104 != x106)) rfl rfl rfl dc108) (fun _ => by kernel_rfl) ?_
                        obtain ⟨x109, c110, h⟩ := h
                        refine SQ.rd (v := .int .i64 x109) rfl (wantY (c := (x104 != x106)) rfl rfl rfl dc108) (fun w hw => ev_load1 rfl (fun _ => by kernel_rfl) (p := (b81, 2)) rfl c110 w hw) ?_
                        refine SQ.val (v := .bool (x109 != 0)) rfl (wantY (c := (x104 != x106)) rfl rfl rfl dc108) (fun _ => by kernel_rfl) ?_
                        refine SQ.val (v := .bool (x109 != 0)) rfl (wantY (c := (x104 != x106)) rfl rfl rfl dc108) (fun _ => by kernel_rfl) ?_
                        by_cases c111 : x109 ≠ 0
                        · replace h := h.1 c111
                          have dc111 : (x109 != 0) = true := (bne_iff_ne.mpr c111)
                          refine SQ.val (v := errV e20) rfl (wantY (c := (x109 != 0)) rfl rfl rfl dc111) (fun _ => by kernel_rfl) ?_
                          obtain ⟨x112, c113, h⟩ := h
                          refine SQ.enter (v := .int .i64 x112) rfl (wantY (c := (x109 != 0)) rfl rfl rfl dc111) (fun _ => by kernel_rfl) ((api_Place.sound F e20 (SH.setl (SH.setl (SH.upd (SH.upd H78 b79 ⟨[.int .i64 0, .int .i64 0, .int .i64 0, .int .i64 0], 62, false, 4⟩) b81 ⟨[sv Sl.nil, .int .i64 0, .int .i64 0, .int .i64 0], 65, false, 4⟩) (b79, 0) [.int .i64 x69, .int .i64 x70, .int .i64 x71, .int .i64 x72]) (b81, 0) [sv l74, .int .i64 x75, .int .i64 x76, .int .i64 x77]) _ c113).mono (by rintro v H' ⟨_, rfl, rfl, rfl⟩; exact ⟨rfl, rfl⟩)) ?_
                          refine SQ.val (v := pv (some (b81, 3))) rfl (wantY (c := (x109 != 0)) rfl rfl rfl dc111) (fun _ => by kernel_rfl) ?_
                          obtain ⟨x114, c115, h⟩ := h
                          refine SQ.rd (v := .int .i64 x114) rfl (wantY (c := (x109 != 0)) rfl rfl rfl dc111) (fun w hw => ev_load1 rfl (fun _ => by kernel_rfl) (p := (b81, 3)) rfl c115 w hw) ?_
                          refine SQ.val (v := .bool (x112 != x114)) rfl (wantY (c := (x109 != 0)) rfl rfl rfl dc111) (fun _ => by kernel_rfl) ?_
                          refine SQ.val (v := .bool (x112 != x114)) rfl (wantY (c := (x104 != x106)) rfl rfl rfl dc108) (fun w => ev_pickT (v := .bool (x112 != x114)) rfl (t := (x109 != 0)) rfl dc111 rfl w) ?_
                          refine SQ.val (v := .bool (x112 != x114)) rfl (wantN rfl) (fun w => ev_pickF (v := .bool (x112 != x114)) rfl (t := (x104 != x106)) rfl dc108 rfl w) ?_
                          refine SQ.nil ?_
                          by_cases c116 : x112 ≠ x114
                          · replace h := h.1 c116
                            have dc116 : (x112 != x114) = true := (bne_iff_ne.mpr c116)
                            refine SW.cond_t (t := (x112 != x114)) rfl dc116 ?_
                            refine SW.seq ?_
                            refine SW.region ?_
                            refine SOps.val (v := .bool false) rfl (wantN rfl) (fun _ => by kernel_rfl) ?_
                            refine SOps.nil ?_
                            obtain ⟨Hr, hr, h⟩ := h
                            exact SW.ret (retQ.mk (.bool false) (res1 rfl rfl) hr ⟨false, rfl, h⟩)
                          · replace h := h.2 c116
                            have dc116 : (x112 != x114) = false := (by simpa using c116)
                            refine SW.cond_f (t := (x112 != x114)) rfl dc116 ?_
                            refine SW.skip ?_
                            exact ⟨_, s1, x2, x11, x13, l15, x16, e17, Fr.upds_self _ _ ⟨rfl, rfl, rfl, rfl, rfl, rfl, rfl, trivial⟩, h⟩
                        · replace h := h.2 c111
                          have dc111 : (x109 != 0) = false := (by simpa using c111)
                          refine SQ.off rfl (wantX (c := (x109 != 0)) rfl rfl rfl dc111) ?_
                          refine SQ.off rfl (wantX (c := (x109 != 0)) rfl rfl rfl dc111) ?_
                          refine SQ.off rfl (wantX (c := (x109 != 0)) rfl rfl rfl dc111) ?_
                          refine SQ.off rfl (wantX (c := (x109 != 0)) rfl rfl rfl dc111) ?_
                          refine SQ.off rfl (wantX (c := (x109 != 0)) rfl rfl rfl dc111) ?_
                          refine SQ.val (v := .bool false) rfl (wantY (c := (x104 != x106)) rfl rfl rfl dc108) (fun w => ev_pickF (v := .bool false) rfl (t := (x109 != 0)) rfl dc111 rfl w) ?_
                          refine SQ.val (v := .bool false) rfl (wantN rfl) (fun w => ev_pickF (v := .bool false) rfl (t := (x104 != x106)) rfl dc108 rfl w) ?_
                          refine SQ.nil ?_
                          refine SW.cond_f (t := false) rfl rfl ?_
                          refine SW.skip ?_
                          exact ⟨_, s1, x2, x11, x13, l15, x16, e17, Fr.upds_self _ _ ⟨rfl, rfl, rfl, rfl, rfl, rfl, rfl, trivial⟩, h⟩
                · replace h := h.2 c95
                  have dc95 : (x93 != 0) = false := (by simpa using c95)
                  refine SQ.off rfl (wantX (c := (x93 != 0)) rfl rfl rfl dc95) ?_
                  refine SQ.off rfl (wantX (c := (x93 != 0)) rfl rfl rfl dc95) ?_
                  refine SQ.off rfl (wantX (c := (x93 != 0)) rfl rfl rfl dc95) ?_
                  refine SQ.off rfl (wantX (c := (x93 != 0)) rfl rfl rfl dc95) ?_
                  refine SQ.off rfl (wantX (c := (x93 != 0)) rfl rfl rfl dc95) ?_
                  refine SQ.val (v := .bool false) rfl (wantY (c := (x88 != x90)) rfl rfl rfl dc92) (fun w => ev_pickF (v := .bool false) rfl (t := (x93 != 0)) rfl dc95 rfl w) ?_
                  refine SQ.val (v := .bool false) rfl (wantN rfl) (fun w => ev_pickF (v := .bool false) rfl (t := (x88 != x90)) rfl dc92 rfl w) ?_
                  refine SQ.val (v := .bool false) rfl (wantN rfl) (fun _ => by kernel_rfl) ?_
                  refine SQ.val (v := .int .i64 x19) rfl (wantY (c := false) rfl rfl rfl rfl) (fun _ => by kernel_rfl) ?_
                  refine SQ.val (v := pv (some (b81, 1))) rfl (wantY (c := false) rfl rfl rfl rfl) (fun _ => by kernel_rfl) ?_
                  obtain ⟨x124, c125, h⟩ := h
                  refine SQ.rd (v := .int .i64 x124) rfl (wantY (c := false) rfl rfl rfl rfl) (fun w hw => ev_load1 rfl (fun _ => by kernel_rfl) (p := (b81, 1)) rfl c125 w hw) ?_
                  refine SQ.val (v := .bool (x19 != x124)) rfl (wantY (c := false) rfl rfl rfl rfl) (fun _ => by kernel_rfl) ?_
                  refine SQ.val (v := .bool (x19 != x124)) rfl (wantN rfl) (fun w => ev_pickF (v := .bool (x19 != x124)) rfl (t := false) rfl rfl rfl w) ?_
                  refine SQ.val (v := .bool (x19 != x124)) rfl (wantN rfl) (fun _ => by kernel_rfl) ?_
                  by_cases c126 : x19 ≠ x124
                  · replace h := h.1 c126
                    have dc126 : (x19 != x124) = true := (bne_iff_ne.mpr c126)
                    refine SQ.off rfl (wantX (c := (x19 != x124)) rfl rfl rfl dc126) ?_
                    refine SQ.off rfl (wantX (c := (x19 != x124)) rfl rfl rfl dc126) ?_
                    refine SQ.off rfl (wantX (c := (x19 != x124)) rfl rfl rfl dc126) ?_
                    refine SQ.off rfl (wantX (c := (x19 != x124)) rfl rfl rfl dc126) ?_
                    refine SQ.off rfl (wantX (c := (x19 != x124)) rfl rfl rfl dc126) ?_
                    refine SQ.val (v := .bool true) rfl (wantN rfl) (fun w => ev_pickT (v := .bool true) rfl (t := (x19 != x124)) rfl dc126 rfl w) ?_
                    refine SQ.val (v := .bool true) rfl (wantN rfl) (fun _ => by kernel_rfl) ?_
                    refine SQ.off rfl (wantX (c := true) rfl rfl rfl rfl) ?_
                    refine SQ.off rfl (wantX (c := true) rfl rfl rfl rfl) ?_
                    refine SQ.off rfl (wantX (c := true) rfl rfl rfl rfl) ?_
                    refine SQ.off rfl (wantX (c := true) rfl rfl rfl rfl) ?_
                    refine SQ.off rfl (wantU rfl rfl rfl) ?_
                    refine SQ.off rfl (wantU rfl rfl rfl) ?_
                    refine SQ.off rfl (wantU rfl rfl rfl) ?_
                    refine SQ.off rfl (wantU rfl rfl rfl) ?_
                    refine SQ.off rfl (wantU rfl rfl rfl) ?_
                    refine SQ.off rfl (wantX (c := true) rfl rfl rfl rfl) ?_
                    refine SQ.val (v := .bool true) rfl (wantN rfl) (fun w => ev_pickT (v := .bool true) rfl (t := true) rfl rfl rfl w) ?_
                    refine SQ.nil ?_
                    refine SW.cond_t (t := true) rfl rfl ?_
                    refine SW.seq ?_
                    refine SW.region ?_
                    refine SOps.val (v := .bool false) rfl (wantN rfl) (fun _ => by kernel_rfl) ?_
                    refine SOps.nil ?_
                    obtain ⟨Hr, hr, h⟩ := h
                    exact SW.ret (retQ.mk (.bool false) (res1 rfl rfl) hr ⟨false, rfl, h⟩)
                  · replace h := h.2 c126
                    have dc126 : (x19 != x124) = false := (by simpa using c126)
                    refine SQ.val (v := errV e20) rfl (wantY (c := (x19 != x124)) rfl rfl rfl dc126) (fun _ => by kernel_rfl) ?_
                    obtain ⟨x127, c128, h⟩ := h
                    refine SQ.enter (v := .int .i64 x127) rfl (wantY (c := (x19 != x124)) rfl rfl rfl dc126) (fun _ => by kernel_rfl) ((api_Code.sound F e20 (SH.setl (SH.setl (SH.upd (SH.upd H78 b79 ⟨[.int .i64 0, .int .i64 0, .int .i64 0, .int .i64 0], 62, false, 4⟩) b81 ⟨[sv Sl.nil, .int .i64 0, .int .i64 0, .int .i64 0], 65, false, 4⟩) (b79, 0) [.int .i64 x69, .int .i64 x70, .int .i64 x71, .int .i64 x72]) (b81, 0) [sv l74, .int .i64 x75, .int .i64 x76, .int .i64 x77]) _ c128).mono (by rintro v H' ⟨_, rfl, rfl, rfl⟩; exact ⟨rfl, rfl⟩)) ?_
                    refine SQ.val (v := pv (some (b81, 2))) rfl (wantY (c := (x19 != x124)) rfl rfl rfl dc126) (fun _ => by kernel_rfl) ?_
                    obtain ⟨x129, c130, h⟩ := h
                    refine SQ.rd (v := .int .i64 x129) rfl (wantY (c := (x19 != x124)) rfl rfl rfl dc126) (fun w hw => ev_load1 rfl (fun _ => by kernel_rfl) (p := (b81, 2)) rfl c130 w hw) ?_
                    refine SQ.val (v := .bool (x127 != x129)) rfl (wantY (c := (x19 != x124)) rfl rfl rfl dc126) (fun _ => by kernel_rfl) ?_
                    refine SQ.val (v := .bool (x127 != x129)) rfl (wantN rfl) (fun w => ev_pickF (v := .bool (x127 != x129)) rfl (t := (x19 != x124)) rfl dc126 rfl w) ?_
                    refine SQ.val (v := .bool (x127 != x129)) rfl (wantN rfl) (fun _ => by kernel_rfl) ?_
                    by_cases c131 : x127 ≠ x129
                    · replace h := h.1 c131
                      have dc131 : (x127 != x129) = true := (bne_iff_ne.mpr c131)
                      refine SQ.off rfl (wantX (c := (x127 != x129)) rfl rfl rfl dc131) ?_
                      refine SQ.off rfl (wantX (c := (x127 != x129)) rfl rfl rfl dc131) ?_
                      refine SQ.off rfl (wantX (c := (x127 != x129)) rfl rfl rfl dc131) ?_
                      refine SQ.off rfl (wantX (c := (x127 != x129)) rfl rfl rfl dc131) ?_
                      refine SQ.off rfl (wantU rfl rfl rfl) ?_
                      refine SQ.off rfl (wantU rfl rfl rfl) ?_
                      refine SQ.off rfl (wantU rfl rfl rfl) ?_
                      refine SQ.off rfl (wantU rfl rfl rfl) ?_
                      refine SQ.off rfl (wantU rfl rfl rfl) ?_
                      refine SQ.off rfl (wantX (c := (x127 != x129)) rfl rfl rfl dc131) ?_
                      refine SQ.val (v := .bool true) rfl (wantN rfl) (fun w => ev_pickT (v := .bool true) rfl (t := (x127 != x129)) rfl dc131 rfl w) ?_
                      refine SQ.nil ?_
                      refine SW.cond_t (t := true) rfl rfl ?_
                      refine SW.seq ?_
                      refine SW.region ?_
                      refine SOps.val (v := .bool false) rfl (wantN rfl) (fun _ => by kernel_rfl) ?_
                      refine SOps.nil ?_
                      obtain ⟨Hr, hr, h⟩ := h
                      exact SW.ret (retQ.mk (.bool false) (res1 rfl rfl) hr ⟨false, rfl, h⟩)
                    · replace h := h.2 c131
                      have dc131 : (x127 != x129) = false := (by simpa using c131)
                      refine SQ.val (v := pv (some (b81, 2))) rfl (wantY (c := (x127 != x129)) rfl rfl rfl dc131) (fun _ => by kernel_rfl) ?_
                      obtain ⟨x132, c133, h⟩ := h
                      refine SQ.rd (v := .int .i64 x132) rfl (wantY (c := (x127 != x129)) rfl rfl rfl dc131) (fun w hw => ev_load1 rfl (fun _ => by kernel_rfl) (p := (b81, 2)) rfl c133 w hw) ?_
                      refine SQ.val (v := .bool (x132 != 0)) rfl (wantY (c := (x127 != x129)) rfl rfl rfl dc131) (fun _ => by kernel_rfl) ?_
                      refine SQ.val (v := .bool (x132 != 0)) rfl (wantY (c := (x127 != x129)) rfl rfl rfl dc131) (fun _ => by kernel_rfl) ?_
                      by_cases c134 : x132 ≠ 0
                      · replace h := h.1 c134
                        have dc134 : (x132 != 0) = true := (bne_iff_ne.mpr c134)
                        refine SQ.val (v := errV e20) rfl (wantY (c := (x132 != 0)) rfl rfl rfl dc134) (fun _ => by kernel_rfl) ?_
                        obtain ⟨x135, c136, h⟩ := h
                        refine SQ.enter (v := .int .i64 x135) rfl (wantY (c := (x132 != 0)) rfl rfl rfl dc134) (fun _ => by kernel_rfl) ((api_Place.sound F e20 (SH.setl (SH.setl (SH.upd (SH.upd H78 b79 ⟨[.int .i64 0, .int .i64 0, .int .i64 0, .int .i64 0], 62, false, 4⟩) b81 ⟨[sv Sl.nil, .int .i64 0, .int .i64 0, .int .i64 0], 65, false, 4⟩) (b79, 0) [.int .i64 x69, .int .i64 x70, .int .i64 x71, .int .i64 x72]) (b81, 0) [sv l74, .int .i64 x75, .int .i64 x76, .int .i64 x77]) _ c136).mono (by rintro v H' ⟨_, rfl, rfl, rfl⟩; exact ⟨rfl, rfl⟩)) ?_
                        refine SQ.val (v := pv (some (b81, 3))) rfl (wantY (c := (x132 != 0)) rfl rfl rfl dc134) (fun _ => by kernel_rfl) ?_
                        obtain ⟨x137, c138, h⟩ := h
                        refine SQ.rd (v := .int .i64 x137) rfl (wantY (c := (x132 != 0)) rfl rfl rfl dc134) (fun w hw => ev_load1 rfl (fun _ => by kernel_rfl) (p := (b81, 3)) rfl c138 w hw) ?_
                        refine SQ.val (v := .bool (x135 != x137)) rfl (wantY (c := (x132 != 0)) rfl rfl rfl dc134) (fun _ => by kernel_rfl) ?_
                        refine SQ.val (v := .bool (x135 != x137)) rfl (wantY (c := (x127 != x129)) rfl rfl rfl dc131) (fun w => ev_pickT (v := .bool (x135 != x137)) rfl (t := (x132 != 0)) rfl dc134 rfl w) ?_
                        refine SQ.val (v := .bool (x135 != x137)) rfl (wantN rfl) (fun w => ev_pickF (v := .bool (x135 != x137)) rfl (t := (x127 != x129)) rfl dc131 rfl w) ?_
                        refine SQ.nil ?_
                        by_cases c139 : x135 ≠ x137
                        · replace h := h.1 c139
                          have dc139 : (x135 != x137) = true := (bne_iff_ne.mpr c139)
                          refine SW.cond_t (t := (x135 != x137)) rfl dc139 ?_
                          refine SW.seq ?_
                          refine SW.region ?_
                          refine SOps.val (v := .bool false) rfl (wantN rfl) (fun _ => by kernel_rfl) ?_
                          refine SOps.nil ?_
                          obtain ⟨Hr, hr, h⟩ := h
                          exact SW.ret (retQ.mk (.bool false) (res1 rfl rfl) hr ⟨false, rfl, h⟩)
                        · replace h := h.2 c139
                          have dc139 : (x135 != x137) = false := (by simpa using c139)
                          refine SW.cond_f (t := (x135 != x137)) rfl dc139 ?_
                          refine SW.skip ?_
                          exact ⟨_, s1, x2, x11, x13, l15, x16, e17, Fr.upds_self _ _ ⟨rfl, rfl, rfl, rfl, rfl, rfl, rfl, trivial⟩, h⟩
                      · replace h := h.2 c134
                        have dc134 : (x132 != 0) = false := (by simpa using c134)
                        refine SQ.off rfl (wantX (c := (x132 != 0)) rfl rfl rfl dc134) ?_
                        refine SQ.off rfl (wantX (c := (x132 != 0)) rfl rfl rfl dc134) ?_
                        refine SQ.off rfl (wantX (c := (x132 != 0)) rfl rfl rfl dc134) ?_
                        refine SQ.off rfl (wantX (c := (x132 != 0)) rfl rfl rfl dc134) ?_
                        refine SQ.off rfl (wantX (c := (x132 != 0)) rfl rfl rfl dc134) ?_
                        refine SQ.val (v := .bool false) rfl (wantY (c := (x127 != x129)) rfl rfl rfl dc131) (fun w => ev_pickF (v := .bool false) rfl (t := (x132 != 0)) rfl dc134 rfl w) ?_
                        refine SQ.val (v := .bool false) rfl (wantN rfl) (fun w => ev_pickF (v := .bool false) rfl (t := (x127 != x129)) rfl dc131 rfl w) ?_
                        refine SQ.nil ?_
                        refine SW.cond_f (t := false) rfl rfl ?_
                        refine SW.skip ?_
                        exact ⟨_, s1, x2, x11, x13, l15, x16, e17, Fr.upds_self _ _ ⟨rfl, rfl, rfl, rfl, rfl, rfl, rfl, trivial⟩, h⟩
  · replace h := h.2 c9
    have dc9 : q7 = false := (Bool.eq_false_iff.mpr c9)
    refine SW.cond_t (t := !q7) rfl (not_f dc9) ?_
    refine SW.seq ?_
    refine SW.region ?_
    refine SOps.val (v := .bool false) rfl (wantN rfl) (fun _ => by kernel_rfl) ?_
    refine SOps.nil ?_
    obtain ⟨Hr, hr, h⟩ := h
    exact SW.ret (retQ.mk (.bool false) (res1 rfl rfl) hr ⟨false, rfl, h⟩)

/-! ### lading/ladinglaw06.GapPuts: function 8 -/
def ladinglaw06_GapPuts.wp (F : Nat) (x1 : Int) (x2 : Int) (l3 : Sl) (s4 : ByteArray) (s5 : ByteArray) (H : SH) (K : Bool → SH → Prop) : Prop :=
  ∀ b6, H b6 = none →
  ladinglaw06_awake.wp F  (SH.upd H b6 ⟨[sv l3, .string s4, .string s5], 71, false, 3⟩) (fun q8 H9 =>
    (q8 = true →
      ∃ (l11 : Sl),
      SH.has H9 (b6, 0) (sv l11) ∧
      ((l11.len : Int) > 300 →
        ∃ Hr, SH.le Hr H9 ∧ K true Hr
      ) ∧ (¬ ((l11.len : Int) > 300) →
        ∃ (s14 : ByteArray),
        SH.has H9 (b6, 1) (.string s14) ∧
        ((s14.size : Int) > 300 →
          ∃ Hr, SH.le Hr H9 ∧ K true Hr
        ) ∧ (¬ ((s14.size : Int) > 300) →
          ∃ (s17 : ByteArray),
          SH.has H9 (b6, 2) (.string s17) ∧
          ((s17.size : Int) > 300 →
            ∃ Hr, SH.le Hr H9 ∧ K true Hr
          ) ∧ (¬ ((s17.size : Int) > 300) →
            ∃ (l20 : Sl),
            SH.has H9 (b6, 0) (sv l20) ∧
            gap_Put.wp F x1 x2 l20 H9 (fun s22 e23 H24 =>
              ∃ (l25 : Sl),
              SH.has H24 (b6, 0) (sv l25) ∧
              gap_Size.wp F x1 x2 l25 H24 (fun x27 H28 =>
                (x27 ≠ (s22.size : Int) →
                  ∃ Hr, SH.le Hr H28 ∧ K false Hr
                ) ∧ (¬ (x27 ≠ (s22.size : Int)) →
                  ladingref06_May.wp F x1 x2 H28 (fun x30 H31 =>
                    (x30 ≠ 0 →
                      (s22 = ByteArray.empty →
                        api_Code.wp F e23 H31 (fun x34 H35 =>
                          (x34 = x30 →
                            api_Place.wp F e23 H35 (fun x37 H38 =>
                              ∃ Hr, SH.le Hr H38 ∧ K (x37 == (-1)) Hr
                            )
                          ) ∧ (¬ (x34 = x30) →
                            ∃ Hr, SH.le Hr H35 ∧ K false Hr
                          )
                        )
                      ) ∧ (¬ (s22 = ByteArray.empty) →
                        ∃ Hr, SH.le Hr H31 ∧ K false Hr
                      )
                    ) ∧ (¬ (x30 ≠ 0) →
                      ∃ (l39 : Sl),
                      SH.has H31 (b6, 0) (sv l39) ∧
                      ladingref06_Wrong.wp F x1 l39 H31 (fun x41 H42 =>
                        (x41 ≥ 0 →
                          (s22 = ByteArray.empty →
                            api_Code.wp F e23 H42 (fun x45 H46 =>
                              (x45 = 10 →
                                api_Place.wp F e23 H46 (fun x48 H49 =>
                                  ∃ Hr, SH.le Hr H49 ∧ K (x48 == x41) Hr
                                )
                              ) ∧ (¬ (x45 = 10) →
                                ∃ Hr, SH.le Hr H46 ∧ K false Hr
                              )
                            )
                          ) ∧ (¬ (s22 = ByteArray.empty) →
                            ∃ Hr, SH.le Hr H42 ∧ K false Hr
                          )
                        ) ∧ (¬ (x41 ≥ 0) →
                          ∃ (s50 : ByteArray),
                          SH.has H42 (b6, 1) (.string s50) ∧
                          s50.size + s22.size ≤ 9223372036854775807 ∧
                          ∃ (s53 : ByteArray),
                          SH.has H42 (b6, 2) (.string s53) ∧
                          (s50 ++ s22).size + s53.size ≤ 9223372036854775807 ∧
                          ∃ (s56 : ByteArray),
                          SH.has H42 (b6, 1) (.string s56) ∧
                          gap_Get.wp F ((s50 ++ s22) ++ s53) (s56.size : Int) x1 x2 H42 (fun l58 x59 e60 H61 =>
                            ∃ (s62 : ByteArray),
                            SH.has H61 (b6, 1) (.string s62) ∧
                            gap_Skip.wp F ((s50 ++ s22) ++ s53) (s62.size : Int) x1 H61 (fun x64 e65 H66 =>
                              ∃ (s67 : ByteArray),
                              SH.has H66 (b6, 1) (.string s67) ∧
                              gap_Count.wp F ((s50 ++ s22) ++ s53) (s67.size : Int) x1 H66 (fun x69 e70 H71 =>
                                ∃ (l72 : Sl),
                                SH.has H71 (b6, 0) (sv l72) ∧
                                ladingref06_Put.wp F x2 l72 H71 (fun s74 H75 =>
                                  (s22 = s74 →
                                    (e23 = none →
                                      (e60 = none →
                                        ∃ (l79 : Sl),
                                        SH.has H75 (b6, 0) (sv l79) ∧
                                        ladingref05_Ints.wp F l58 l79 H75 (fun q81 H82 =>
                                          (q81 = true →
                                            ∃ (s84 : ByteArray),
                                            SH.has H82 (b6, 1) (.string s84) ∧
                                            (x59 = (w64 ((s84.size : Int) + (s22.size : Int))) →
                                              (e65 = none →
                                                (x64 = x59 →
                                                  (e70 = none →
                                                    ∃ (l90 : Sl),
                                                    SH.has H82 (b6, 0) (sv l90) ∧
                                                    ∃ Hr, SH.le Hr H82 ∧ K (x69 == (l90.len : Int)) Hr
                                                  ) ∧ (∀ v89, e70 = some v89 →
                                                    ∃ Hr, SH.le Hr H82 ∧ K false Hr
                                                  )
                                                ) ∧ (¬ (x64 = x59) →
                                                  ∃ Hr, SH.le Hr H82 ∧ K false Hr
                                                )
                                              ) ∧ (∀ v87, e65 = some v87 →
                                                ∃ Hr, SH.le Hr H82 ∧ K false Hr
                                              )
                                            ) ∧ (¬ (x59 = (w64 ((s84.size : Int) + (s22.size : Int)))) →
                                              ∃ Hr, SH.le Hr H82 ∧ K false Hr
                                            )
                                          ) ∧ (¬ (q81 = true) →
                                            ∃ Hr, SH.le Hr H82 ∧ K false Hr
                                          )
                                        )
                                      ) ∧ (∀ v78, e60 = some v78 →
                                        ∃ Hr, SH.le Hr H75 ∧ K false Hr
                                      )
                                    ) ∧ (∀ v77, e23 = some v77 →
                                      ∃ Hr, SH.le Hr H75 ∧ K false Hr
                                    )
                                  ) ∧ (¬ (s22 = s74) →
                                    ∃ Hr, SH.le Hr H75 ∧ K false Hr
                                  )
                                )
                              )
                            )
                          )
                        )
                      )
                    )
                  )
                )
              )
            )
          )
        )
      )
    ) ∧ (¬ (q8 = true) →
      ∃ Hr, SH.le Hr H9 ∧ K false Hr
    )
  )
set_option maxHeartbeats 8000000 in
theorem ladinglaw06_GapPuts.sound (F : Nat) (x1 : Int) (x2 : Int) (l3 : Sl) (s4 : ByteArray) (s5 : ByteArray) (H : SH) (K : Bool → SH → Prop) (h : ladinglaw06_GapPuts.wp F x1 x2 l3 s4 s5 H K) : SCalls Tryd.prog 8 #[.int .i64 x1, .int .i64 x2, .agg #[sv l3, .string s4, .string s5]] H (fun v H' => ∃ (q93 : Bool), v = .bool q93 ∧ K q93 H') := by
  unfold ladinglaw06_GapPuts.wp at h
  refine SCalls.body Tryd.func8 rfl (Nat.le_of_ble_eq_true rfl) ?_
  refine SW.seq ?_
  refine SW.region ?_
  refine SOps.box rfl rfl (wantN rfl) (v := .agg #[sv l3, .string s4, .string s5]) rfl (fun b6 c7 => ?_)
  replace h := h b6 c7
  refine SOps.val (v := .bool false) rfl (wantN rfl) (fun _ => by kernel_rfl) ?_
  refine SOps.nil ?_
  refine SW.seq ?_
  refine SW.seq ?_
  refine SW.region ?_
  refine SOps.enter rfl (wantN rfl) (fun _ => by kernel_rfl) (ladinglaw06_awake.sound F  (SH.upd H b6 ⟨[sv l3, .string s4, .string s5], 71, false, 3⟩) _ h) ?_
  clear h
  rintro v H9 ⟨q8, rfl, h⟩
  refine SOps.val (v := .bool !q8) rfl (wantN rfl) (fun _ => by kernel_rfl) ?_
  refine SOps.nil ?_
  by_cases c10 : q8 = true
  · replace h := h.1 c10
    have dc10 : q8 = true := c10
    refine SW.cond_f (t := !q8) rfl (not_t dc10) ?_
    refine SW.skip ?_
    refine SW.seq ?_
    refine SW.seq ?_
    refine SW.region ?_
    refine SOps.val (v := pv (some (b6, 0))) rfl (wantN rfl) (fun _ => by kernel_rfl) ?_
    obtain ⟨l11, c12, h⟩ := h
    refine SOps.rd (v := sv l11) rfl (wantN rfl) (fun w hw => ev_load1 rfl (fun _ => by kernel_rfl) (p := (b6, 0)) rfl c12 w hw) ?_
    refine SOps.val (v := .int .i64 (l11.len : Int)) rfl (wantN rfl) (fun _ => by kernel_rfl) ?_
    refine SOps.val (v := .bool (decide ((l11.len : Int) > 300))) rfl (wantN rfl) (fun _ => by kernel_rfl) ?_
    refine SOps.val (v := .bool (decide ((l11.len : Int) > 300))) rfl (wantN rfl) (fun _ => by kernel_rfl) ?_
    by_cases c13 : (l11.len : Int) > 300
    · replace h := h.1 c13
      have dc13 : (decide ((l11.len : Int) > 300)) = true := (decide_eq_true c13)
      refine SOps.off rfl (wantX (c := decide ((l11.len : Int) > 300)) rfl rfl rfl dc13) ?_
      refine SOps.off rfl (wantX (c := decide ((l11.len : Int) > 300)) rfl rfl rfl dc13) ?_
      refine SOps.off rfl (wantX (c := decide ((l11.len : Int) > 300)) rfl rfl rfl dc13) ?_
      refine SOps.off rfl (wantX (c := decide ((l11.len : Int) > 300)) rfl rfl rfl dc13) ?_
      refine SOps.val (v := .bool true) rfl (wantN rfl) (fun w => ev_pickT (v := .bool true) rfl (t := decide ((l11.len : Int) > 300)) rfl dc13 rfl w) ?_
      refine SOps.val (v := .bool true) rfl (wantN rfl) (fun _ => by kernel_rfl) ?_
      refine SOps.off rfl (wantX (c := true) rfl rfl rfl rfl) ?_
      refine SOps.off rfl (wantX (c := true) rfl rfl rfl rfl) ?_
      refine SOps.off rfl (wantX (c := true) rfl rfl rfl rfl) ?_
      refine SOps.off rfl (wantX (c := true) rfl rfl rfl rfl) ?_
      refine SOps.val (v := .bool true) rfl (wantN rfl) (fun w => ev_pickT (v := .bool true) rfl (t := true) rfl rfl rfl w) ?_
      refine SOps.nil ?_
      refine SW.cond_t (t := true) rfl rfl ?_
      refine SW.seq ?_
      refine SW.region ?_
      refine SOps.val (v := .bool true) rfl (wantN rfl) (fun _ => by kernel_rfl) ?_
      refine SOps.nil ?_
      obtain ⟨Hr, hr, h⟩ := h
      exact SW.ret (retQ.mk (.bool true) (res1 rfl rfl) hr ⟨true, rfl, h⟩)
    · replace h := h.2 c13
      have dc13 : (decide ((l11.len : Int) > 300)) = false := (decide_eq_false c13)
      refine SOps.val (v := pv (some (b6, 1))) rfl (wantY (c := decide ((l11.len : Int) > 300)) rfl rfl rfl dc13) (fun _ => by kernel_rfl) ?_
      obtain ⟨s14, c15, h⟩ := h
      refine SOps.rd (v := .string s14) rfl (wantY (c := decide ((l11.len : Int) > 300)) rfl rfl rfl dc13) (fun w hw => ev_load1 rfl (fun _ => by kernel_rfl) (p := (b6, 1)) rfl c15 w hw) ?_
      refine SOps.val (v := .int .i64 (s14.size : Int)) rfl (wantY (c := decide ((l11.len : Int) > 300)) rfl rfl rfl dc13) (fun _ => by kernel_rfl) ?_
      refine SOps.val (v := .bool (decide ((s14.size : Int) > 300))) rfl (wantY (c := decide ((l11.len : Int) > 300)) rfl rfl rfl dc13) (fun _ => by kernel_rfl) ?_
      refine SOps.val (v := .bool (decide ((s14.size : Int) > 300))) rfl (wantN rfl) (fun w => ev_pickF (v := .bool (decide ((s14.size : Int) > 300))) rfl (t := decide ((l11.len : Int) > 300)) rfl dc13 rfl w) ?_
      refine SOps.val (v := .bool (decide ((s14.size : Int) > 300))) rfl (wantN rfl) (fun _ => by kernel_rfl) ?_
      by_cases c16 : (s14.size : Int) > 300
      · replace h := h.1 c16
        have dc16 : (decide ((s14.size : Int) > 300)) = true := (decide_eq_true c16)
        refine SOps.off rfl (wantX (c := decide ((s14.size : Int) > 300)) rfl rfl rfl dc16) ?_
        refine SOps.off rfl (wantX (c := decide ((s14.size : Int) > 300)) rfl rfl rfl dc16) ?_
        refine SOps.off rfl (wantX (c := decide ((s14.size : Int) > 300)) rfl rfl rfl dc16) ?_
        refine SOps.off rfl (wantX (c := decide ((s14.size : Int) > 300)) rfl rfl rfl dc16) ?_
        refine SOps.val (v := .bool true) rfl (wantN rfl) (fun w => ev_pickT (v := .bool true) rfl (t := decide ((s14.size : Int) > 300)) rfl dc16 rfl w) ?_
        refine SOps.nil ?_
        refine SW.cond_t (t := true) rfl rfl ?_
        refine SW.seq ?_
        refine SW.region ?_
        refine SOps.val (v := .bool true) rfl (wantN rfl) (fun _ => by kernel_rfl) ?_
        refine SOps.nil ?_
        obtain ⟨Hr, hr, h⟩ := h
        exact SW.ret (retQ.mk (.bool true) (res1 rfl rfl) hr ⟨true, rfl, h⟩)
      · replace h := h.2 c16
        have dc16 : (decide ((s14.size : Int) > 300)) = false := (decide_eq_false c16)
        refine SOps.val (v := pv (some (b6, 2))) rfl (wantY (c := decide ((s14.size : Int) > 300)) rfl rfl rfl dc16) (fun _ => by kernel_rfl) ?_
        obtain ⟨s17, c18, h⟩ := h
        refine SOps.rd (v := .string s17) rfl (wantY (c := decide ((s14.size : Int) > 300)) rfl rfl rfl dc16) (fun w hw => ev_load1 rfl (fun _ => by kernel_rfl) (p := (b6, 2)) rfl c18 w hw) ?_
        refine SOps.val (v := .int .i64 (s17.size : Int)) rfl (wantY (c := decide ((s14.size : Int) > 300)) rfl rfl rfl dc16) (fun _ => by kernel_rfl) ?_
        refine SOps.val (v := .bool (decide ((s17.size : Int) > 300))) rfl (wantY (c := decide ((s14.size : Int) > 300)) rfl rfl rfl dc16) (fun _ => by kernel_rfl) ?_
        refine SOps.val (v := .bool (decide ((s17.size : Int) > 300))) rfl (wantN rfl) (fun w => ev_pickF (v := .bool (decide ((s17.size : Int) > 300))) rfl (t := decide ((s14.size : Int) > 300)) rfl dc16 rfl w) ?_
        refine SOps.nil ?_
        by_cases c19 : (s17.size : Int) > 300
        · replace h := h.1 c19
          have dc19 : (decide ((s17.size : Int) > 300)) = true := (decide_eq_true c19)
          refine SW.cond_t (t := decide ((s17.size : Int) > 300)) rfl dc19 ?_
          refine SW.seq ?_
          refine SW.region ?_
          refine SOps.val (v := .bool true) rfl (wantN rfl) (fun _ => by kernel_rfl) ?_
          refine SOps.nil ?_
          obtain ⟨Hr, hr, h⟩ := h
          exact SW.ret (retQ.mk (.bool true) (res1 rfl rfl) hr ⟨true, rfl, h⟩)
        · replace h := h.2 c19
          have dc19 : (decide ((s17.size : Int) > 300)) = false := (decide_eq_false c19)
          refine SW.cond_f (t := decide ((s17.size : Int) > 300)) rfl dc19 ?_
          refine SW.skip ?_
          refine SW.seq ?_
          refine SW.region ?_
          refine SOps.val (v := .int .i64 x1) rfl (wantN rfl) (fun _ => by kernel_rfl) ?_
          refine SOps.val (v := .int .i64 x2) rfl (wantN rfl) (fun _ => by kernel_rfl) ?_
          refine SOps.val (v := pv (some (b6, 0))) rfl (wantN rfl) (fun _ => by kernel_rfl) ?_
          obtain ⟨l20, c21, h⟩ := h
          refine SOps.rd (v := sv l20) rfl (wantN rfl) (fun w hw => ev_load1 rfl (fun _ => by kernel_rfl) (p := (b6, 0)) rfl c21 w hw) ?_
          refine SOps.enter rfl (wantN rfl) (fun _ => by kernel_rfl) (gap_Put.sound F x1 x2 l20 H9 _ h) ?_
          clear h
          rintro v H24 ⟨s22, e23, rfl, h⟩
          refine SOps.val (v := .tuple #[.string s22, errV e23]) rfl (wantN rfl) (fun _ => by kernel_rfl) ?_
          refine SOps.val (v := .string s22) rfl (wantN rfl) (fun _ => by kernel_rfl) ?_
          refine SOps.val (v := errV e23) rfl (wantN rfl) (fun _ => by kernel_rfl) ?_
          refine SOps.val (v := .string s22) rfl (wantN rfl) (fun _ => by kernel_rfl) ?_
          refine SOps.val (v := errV e23) rfl (wantN rfl) (fun _ => by kernel_rfl) ?_
          refine SOps.nil ?_
          refine SW.seq ?_
          refine SW.seq ?_
          refine SW.region ?_
          refine SOps.val (v := .int .i64 x1) rfl (wantN rfl) (fun _ => by kernel_rfl) ?_
          refine SOps.val (v := .int .i64 x2) rfl (wantN rfl) (fun _ => by kernel_rfl) ?_
          refine SOps.val (v := pv (some (b6, 0))) rfl (wantN rfl) (fun _ => by kernel_rfl) ?_
          obtain ⟨l25, c26, h⟩ := h
          refine SOps.rd (v := sv l25) rfl (wantN rfl) (fun w hw => ev_load1 rfl (fun _ => by kernel_rfl) (p := (b6, 0)) rfl c26 w hw) ?_
          refine SOps.enter rfl (wantN rfl) (fun _ => by kernel_rfl) (gap_Size.sound F x1 x2 l25 H24 _ h) ?_
          clear h
          rintro v H28 ⟨x27, rfl, h⟩
          refine SOps.val (v := .string s22) rfl (wantN rfl) (fun _ => by kernel_rfl) ?_
          refine SOps.val (v := .int .i64 (s22.size : Int)) rfl (wantN rfl) (fun _ => by kernel_rfl) ?_
          refine SOps.val (v := .bool (x27 != (s22.size : Int))) rfl (wantN rfl) (fun _ => by kernel_rfl) ?_
          refine SOps.nil ?_
          by_cases c29 : x27 ≠ (s22.size : Int)
          · replace h := h.1 c29
            have dc29 : (x27 != (s22.size : Int)) = true := (bne_iff_ne.mpr c29)
            refine SW.cond_t (t := (x27 != (s22.size : Int))) rfl dc29 ?_
            refine SW.seq ?_
            refine SW.region ?_
            refine SOps.val (v := .bool false) rfl (wantN rfl) (fun _ => by kernel_rfl) ?_
            refine SOps.nil ?_
            obtain ⟨Hr, hr, h⟩ := h
            exact SW.ret (retQ.mk (.bool false) (res1 rfl rfl) hr ⟨false, rfl, h⟩)
          · replace h := h.2 c29
            have dc29 : (x27 != (s22.size : Int)) = false := (by simpa using c29)
            refine SW.cond_f (t := (x27 != (s22.size : Int))) rfl dc29 ?_
            refine SW.skip ?_
            refine SW.seq ?_
            refine SW.seq ?_
            refine SW.region ?_
            refine SOps.val (v := .int .i64 x1) rfl (wantN rfl) (fun _ => by kernel_rfl) ?_
            refine SOps.val (v := .int .i64 x2) rfl (wantN rfl) (fun _ => by kernel_rfl) ?_
            refine SOps.enter rfl (wantN rfl) (fun _ => by kernel_rfl) (ladingref06_May.sound F x1 x2 H28 _ h) ?_
            clear h
            rintro v H31 ⟨x30, rfl, h⟩
            refine SOps.val (v := .int .i64 x30) rfl (wantN rfl) (fun _ => by kernel_rfl) ?_
            refine SOps.nil ?_
            refine SW.seq ?_
            refine SW.region ?_
            refine SOps.val (v := .int .i64 x30) rfl (wantN rfl) (fun _ => by kernel_rfl) ?_
            refine SOps.val (v := .bool (x30 != 0)) rfl (wantN rfl) (fun _ => by kernel_rfl) ?_
            refine SOps.nil ?_
            by_cases c32 : x30 ≠ 0
            · replace h := h.1 c32
              have dc32 : (x30 != 0) = true := (bne_iff_ne.mpr c32)
              refine SW.cond_t (t := (x30 != 0)) rfl dc32 ?_
              refine SW.seq ?_
              refine SW.region ?_
              refine SOps.val (v := .string s22) rfl (wantN rfl) (fun _ => by kernel_rfl) ?_
              refine SOps.val (v := .bool (decide (s22 = ByteArray.empty))) rfl (wantN rfl) (fun w => ev_eqS rfl rfl rfl w) ?_
              refine SOps.val (v := .bool (decide (s22 = ByteArray.empty))) rfl (wantN rfl) (fun _ => by kernel_rfl) ?_
              by_cases c33 : s22 = ByteArray.empty
              · replace h := h.1 c33
                have dc33 : (decide (s22 = ByteArray.empty)) = true := (decide_eq_true c33)
                refine SOps.val (v := errV e23) rfl (wantY (c := decide (s22 = ByteArray.empty)) rfl rfl rfl dc33) (fun _ => by kernel_rfl) ?_
                refine SOps.enter rfl (wantY (c := decide (s22 = ByteArray.empty)) rfl rfl rfl dc33) (fun _ => by kernel_rfl) (api_Code.sound F e23 H31 _ h) ?_
                clear h
                rintro v H35 ⟨x34, rfl, h⟩
                refine SOps.val (v := .int .i64 x30) rfl (wantY (c := decide (s22 = ByteArray.empty)) rfl rfl rfl dc33) (fun _ => by kernel_rfl) ?_
                refine SOps.val (v := .bool (x34 == x30)) rfl (wantY (c := decide (s22 = ByteArray.empty)) rfl rfl rfl dc33) (fun _ => by kernel_rfl) ?_
                refine SOps.val (v := .bool (x34 == x30)) rfl (wantN rfl) (fun w => ev_pickT (v := .bool (x34 == x30)) rfl (t := decide (s22 = ByteArray.empty)) rfl dc33 rfl w) ?_
                refine SOps.val (v := .bool (x34 == x30)) rfl (wantN rfl) (fun _ => by kernel_rfl) ?_
                by_cases c36 : x34 = x30
                · replace h := h.1 c36
                  have dc36 : (x34 == x30) = true := (beq_iff_eq.mpr c36)
                  refine SOps.val (v := errV e23) rfl (wantY (c := (x34 == x30)) rfl rfl rfl dc36) (fun _ => by kernel_rfl) ?_
                  refine SOps.enter rfl (wantY (c := (x34 == x30)) rfl rfl rfl dc36) (fun _ => by kernel_rfl) (api_Place.sound F e23 H35 _ h) ?_
                  clear h
                  rintro v H38 ⟨x37, rfl, h⟩
                  refine SOps.val (v := .bool (x37 == (-1))) rfl (wantY (c := (x34 == x30)) rfl rfl rfl dc36) (fun _ => by kernel_rfl) ?_
                  refine SOps.val (v := .bool (x37 == (-1))) rfl (wantN rfl) (fun w => ev_pickT (v := .bool (x37 == (-1))) rfl (t := (x34 == x30)) rfl dc36 rfl w) ?_
                  refine SOps.val (v := .bool (x37 == (-1))) rfl (wantN rfl) (fun _ => by kernel_rfl) ?_
                  refine SOps.nil ?_
                  obtain ⟨Hr, hr, h⟩ := h
                  exact SW.ret (retQ.mk (.bool (x37 == (-1))) (res1 rfl rfl) hr ⟨(x37 == (-1)), rfl, h⟩)
                · replace h := h.2 c36
                  have dc36 : (x34 == x30) = false := (beq_eq_false_iff_ne.mpr c36)
                  refine SOps.off rfl (wantX (c := (x34 == x30)) rfl rfl rfl dc36) ?_
                  refine SOps.off rfl (wantX (c := (x34 == x30)) rfl rfl rfl dc36) ?_
                  refine SOps.off rfl (wantX (c := (x34 == x30)) rfl rfl rfl dc36) ?_
                  refine SOps.val (v := .bool false) rfl (wantN rfl) (fun w => ev_pickF (v := .bool false) rfl (t := (x34 == x30)) rfl dc36 rfl w) ?_
                  refine SOps.val (v := .bool false) rfl (wantN rfl) (fun _ => by kernel_rfl) ?_
                  refine SOps.nil ?_
                  obtain ⟨Hr, hr, h⟩ := h
                  exact SW.ret (retQ.mk (.bool false) (res1 rfl rfl) hr ⟨false, rfl, h⟩)
              · replace h := h.2 c33
                have dc33 : (decide (s22 = ByteArray.empty)) = false := (decide_eq_false c33)
                refine SOps.off rfl (wantX (c := decide (s22 = ByteArray.empty)) rfl rfl rfl dc33) ?_
                refine SOps.off rfl (wantX (c := decide (s22 = ByteArray.empty)) rfl rfl rfl dc33) ?_
                refine SOps.off rfl (wantX (c := decide (s22 = ByteArray.empty)) rfl rfl rfl dc33) ?_
                refine SOps.off rfl (wantX (c := decide (s22 = ByteArray.empty)) rfl rfl rfl dc33) ?_
                refine SOps.val (v := .bool false) rfl (wantN rfl) (fun w => ev_pickF (v := .bool false) rfl (t := decide (s22 = ByteArray.empty)) rfl dc33 rfl w) ?_
                refine SOps.val (v := .bool false) rfl (wantN rfl) (fun _ => by kernel_rfl) ?_
                refine SOps.off rfl (wantX (c := false) rfl rfl rfl rfl) ?_
                refine SOps.off rfl (wantX (c := false) rfl rfl rfl rfl) ?_
                refine SOps.off rfl (wantX (c := false) rfl rfl rfl rfl) ?_
                refine SOps.val (v := .bool false) rfl (wantN rfl) (fun w => ev_pickF (v := .bool false) rfl (t := false) rfl rfl rfl w) ?_
                refine SOps.val (v := .bool false) rfl (wantN rfl) (fun _ => by kernel_rfl) ?_
                refine SOps.nil ?_
                obtain ⟨Hr, hr, h⟩ := h
                exact SW.ret (retQ.mk (.bool false) (res1 rfl rfl) hr ⟨false, rfl, h⟩)
            · replace h := h.2 c32
              have dc32 : (x30 != 0) = false := (by simpa using c32)
              refine SW.cond_f (t := (x30 != 0)) rfl dc32 ?_
              refine SW.skip ?_
              refine SW.seq ?_
              refine SW.seq ?_
              refine SW.region ?_
              refine SOps.val (v := .int .i64 x1) rfl (wantN rfl) (fun _ => by kernel_rfl) ?_
              refine SOps.val (v := pv (some (b6, 0))) rfl (wantN rfl) (fun _ => by kernel_rfl) ?_
              obtain ⟨l39, c40, h⟩ := h
              refine SOps.rd (v := sv l39) rfl (wantN rfl) (fun w hw => ev_load1 rfl (fun _ => by kernel_rfl) (p := (b6, 0)) rfl c40 w hw) ?_
              refine SOps.enter rfl (wantN rfl) (fun _ => by kernel_rfl) (ladingref06_Wrong.sound F x1 l39 H31 _ h) ?_
              clear h
              rintro v H42 ⟨x41, rfl, h⟩
              refine SOps.val (v := .int .i64 x41) rfl (wantN rfl) (fun _ => by kernel_rfl) ?_
              refine SOps.nil ?_
              refine SW.seq ?_
              refine SW.region ?_
              refine SOps.val (v := .int .i64 x41) rfl (wantN rfl) (fun _ => by kernel_rfl) ?_
              refine SOps.val (v := .bool (decide (x41 ≥ 0))) rfl (wantN rfl) (fun _ => by kernel_rfl) ?_
              refine SOps.nil ?_
              by_cases c43 : x41 ≥ 0
              · replace h := h.1 c43
                have dc43 : (decide (x41 ≥ 0)) = true := (decide_eq_true c43)
                refine SW.cond_t (t := decide (x41 ≥ 0)) rfl dc43 ?_
                refine SW.seq ?_
                refine SW.region ?_
                refine SOps.val (v := .string s22) rfl (wantN rfl) (fun _ => by kernel_rfl) ?_
                refine SOps.val (v := .bool (decide (s22 = ByteArray.empty))) rfl (wantN rfl) (fun w => ev_eqS rfl rfl rfl w) ?_
                refine SOps.val (v := .bool (decide (s22 = ByteArray.empty))) rfl (wantN rfl) (fun _ => by kernel_rfl) ?_
                by_cases c44 : s22 = ByteArray.empty
                · replace h := h.1 c44
                  have dc44 : (decide (s22 = ByteArray.empty)) = true := (decide_eq_true c44)
                  refine SOps.val (v := errV e23) rfl (wantY (c := decide (s22 = ByteArray.empty)) rfl rfl rfl dc44) (fun _ => by kernel_rfl) ?_
                  refine SOps.enter rfl (wantY (c := decide (s22 = ByteArray.empty)) rfl rfl rfl dc44) (fun _ => by kernel_rfl) (api_Code.sound F e23 H42 _ h) ?_
                  clear h
                  rintro v H46 ⟨x45, rfl, h⟩
                  refine SOps.val (v := .bool (x45 == 10)) rfl (wantY (c := decide (s22 = ByteArray.empty)) rfl rfl rfl dc44) (fun _ => by kernel_rfl) ?_
                  refine SOps.val (v := .bool (x45 == 10)) rfl (wantN rfl) (fun w => ev_pickT (v := .bool (x45 == 10)) rfl (t := decide (s22 = ByteArray.empty)) rfl dc44 rfl w) ?_
                  refine SOps.val (v := .bool (x45 == 10)) rfl (wantN rfl) (fun _ => by kernel_rfl) ?_
                  by_cases c47 : x45 = 10
                  · replace h := h.1 c47
                    have dc47 : (x45 == 10) = true := (beq_iff_eq.mpr c47)
                    refine SOps.val (v := errV e23) rfl (wantY (c := (x45 == 10)) rfl rfl rfl dc47) (fun _ => by kernel_rfl) ?_
                    refine SOps.enter rfl (wantY (c := (x45 == 10)) rfl rfl rfl dc47) (fun _ => by kernel_rfl) (api_Place.sound F e23 H46 _ h) ?_
                    clear h
                    rintro v H49 ⟨x48, rfl, h⟩
                    refine SOps.val (v := .int .i64 x41) rfl (wantY (c := (x45 == 10)) rfl rfl rfl dc47) (fun _ => by kernel_rfl) ?_
                    refine SOps.val (v := .bool (x48 == x41)) rfl (wantY (c := (x45 == 10)) rfl rfl rfl dc47) (fun _ => by kernel_rfl) ?_
                    refine SOps.val (v := .bool (x48 == x41)) rfl (wantN rfl) (fun w => ev_pickT (v := .bool (x48 == x41)) rfl (t := (x45 == 10)) rfl dc47 rfl w) ?_
                    refine SOps.val (v := .bool (x48 == x41)) rfl (wantN rfl) (fun _ => by kernel_rfl) ?_
                    refine SOps.nil ?_
                    obtain ⟨Hr, hr, h⟩ := h
                    exact SW.ret (retQ.mk (.bool (x48 == x41)) (res1 rfl rfl) hr ⟨(x48 == x41), rfl, h⟩)
                  · replace h := h.2 c47
                    have dc47 : (x45 == 10) = false := (beq_eq_false_iff_ne.mpr c47)
                    refine SOps.off rfl (wantX (c := (x45 == 10)) rfl rfl rfl dc47) ?_
                    refine SOps.off rfl (wantX (c := (x45 == 10)) rfl rfl rfl dc47) ?_
                    refine SOps.off rfl (wantX (c := (x45 == 10)) rfl rfl rfl dc47) ?_
                    refine SOps.off rfl (wantX (c := (x45 == 10)) rfl rfl rfl dc47) ?_
                    refine SOps.val (v := .bool false) rfl (wantN rfl) (fun w => ev_pickF (v := .bool false) rfl (t := (x45 == 10)) rfl dc47 rfl w) ?_
                    refine SOps.val (v := .bool false) rfl (wantN rfl) (fun _ => by kernel_rfl) ?_
                    refine SOps.nil ?_
                    obtain ⟨Hr, hr, h⟩ := h
                    exact SW.ret (retQ.mk (.bool false) (res1 rfl rfl) hr ⟨false, rfl, h⟩)
                · replace h := h.2 c44
                  have dc44 : (decide (s22 = ByteArray.empty)) = false := (decide_eq_false c44)
                  refine SOps.off rfl (wantX (c := decide (s22 = ByteArray.empty)) rfl rfl rfl dc44) ?_
                  refine SOps.off rfl (wantX (c := decide (s22 = ByteArray.empty)) rfl rfl rfl dc44) ?_
                  refine SOps.off rfl (wantX (c := decide (s22 = ByteArray.empty)) rfl rfl rfl dc44) ?_
                  refine SOps.val (v := .bool false) rfl (wantN rfl) (fun w => ev_pickF (v := .bool false) rfl (t := decide (s22 = ByteArray.empty)) rfl dc44 rfl w) ?_
                  refine SOps.val (v := .bool false) rfl (wantN rfl) (fun _ => by kernel_rfl) ?_
                  refine SOps.off rfl (wantX (c := false) rfl rfl rfl rfl) ?_
                  refine SOps.off rfl (wantX (c := false) rfl rfl rfl rfl) ?_
                  refine SOps.off rfl (wantX (c := false) rfl rfl rfl rfl) ?_
                  refine SOps.off rfl (wantX (c := false) rfl rfl rfl rfl) ?_
                  refine SOps.val (v := .bool false) rfl (wantN rfl) (fun w => ev_pickF (v := .bool false) rfl (t := false) rfl rfl rfl w) ?_
                  refine SOps.val (v := .bool false) rfl (wantN rfl) (fun _ => by kernel_rfl) ?_
                  refine SOps.nil ?_
                  obtain ⟨Hr, hr, h⟩ := h
                  exact SW.ret (retQ.mk (.bool false) (res1 rfl rfl) hr ⟨false, rfl, h⟩)
              · replace h := h.2 c43
                have dc43 : (decide (x41 ≥ 0)) = false := (decide_eq_false c43)
                refine SW.cond_f (t := decide (x41 ≥ 0)) rfl dc43 ?_
                refine SW.skip ?_
                refine SW.seq ?_
                refine SW.region ?_
                refine SOps.val (v := pv (some (b6, 1))) rfl (wantN rfl) (fun _ => by kernel_rfl) ?_
                obtain ⟨s50, c51, h⟩ := h
                refine SOps.rd (v := .string s50) rfl (wantN rfl) (fun w hw => ev_load1 rfl (fun _ => by kernel_rfl) (p := (b6, 1)) rfl c51 w hw) ?_
                refine SOps.val (v := .string s22) rfl (wantN rfl) (fun _ => by kernel_rfl) ?_
                obtain ⟨c52, h⟩ := h
                refine SOps.val (v := .string (s50 ++ s22)) rfl (wantN rfl) (fun w => ev_cat rfl rfl rfl c52 w) ?_
                refine SOps.val (v := pv (some (b6, 2))) rfl (wantN rfl) (fun _ => by kernel_rfl) ?_
                obtain ⟨s53, c54, h⟩ := h
                refine SOps.rd (v := .string s53) rfl (wantN rfl) (fun w hw => ev_load1 rfl (fun _ => by kernel_rfl) (p := (b6, 2)) rfl c54 w hw) ?_
                obtain ⟨c55, h⟩ := h
                refine SOps.val (v := .string ((s50 ++ s22) ++ s53)) rfl (wantN rfl) (fun w => ev_cat rfl rfl rfl c55 w) ?_
                refine SOps.val (v := .string ((s50 ++ s22) ++ s53)) rfl (wantN rfl) (fun _ => by kernel_rfl) ?_
                refine SOps.nil ?_
                refine SW.seq ?_
                refine SW.region ?_
                refine SOps.val (v := .string ((s50 ++ s22) ++ s53)) rfl (wantN rfl) (fun _ => by kernel_rfl) ?_
                refine SOps.val (v := pv (some (b6, 1))) rfl (wantN rfl) (fun _ => by kernel_rfl) ?_
                obtain ⟨s56, c57, h⟩ := h
                refine SOps.rd (v := .string s56) rfl (wantN rfl) (fun w hw => ev_load1 rfl (fun _ => by kernel_rfl) (p := (b6, 1)) rfl c57 w hw) ?_
                refine SOps.val (v := .int .i64 (s56.size : Int)) rfl (wantN rfl) (fun _ => by kernel_rfl) ?_
                refine SOps.val (v := .int .i64 x1) rfl (wantN rfl) (fun _ => by kernel_rfl) ?_
                refine SOps.val (v := .int .i64 x2) rfl (wantN rfl) (fun _ => by kernel_rfl) ?_
                refine SOps.enter rfl (wantN rfl) (fun _ => by kernel_rfl) (gap_Get.sound F ((s50 ++ s22) ++ s53) (s56.size : Int) x1 x2 H42 _ h) ?_
                clear h
                rintro v H61 ⟨l58, x59, e60, rfl, h⟩
                refine SOps.val (v := .tuple #[sv l58, .int .i64 x59, errV e60]) rfl (wantN rfl) (fun _ => by kernel_rfl) ?_
                refine SOps.val (v := sv l58) rfl (wantN rfl) (fun _ => by kernel_rfl) ?_
                refine SOps.val (v := .int .i64 x59) rfl (wantN rfl) (fun _ => by kernel_rfl) ?_
                refine SOps.val (v := errV e60) rfl (wantN rfl) (fun _ => by kernel_rfl) ?_
                refine SOps.val (v := sv l58) rfl (wantN rfl) (fun _ => by kernel_rfl) ?_
                refine SOps.val (v := .int .i64 x59) rfl (wantN rfl) (fun _ => by kernel_rfl) ?_
                refine SOps.val (v := errV e60) rfl (wantN rfl) (fun _ => by kernel_rfl) ?_
                refine SOps.nil ?_
                refine SW.seq ?_
                refine SW.region ?_
                refine SOps.val (v := .string ((s50 ++ s22) ++ s53)) rfl (wantN rfl) (fun _ => by kernel_rfl) ?_
                refine SOps.val (v := pv (some (b6, 1))) rfl (wantN rfl) (fun _ => by kernel_rfl) ?_
                obtain ⟨s62, c63, h⟩ := h
                refine SOps.rd (v := .string s62) rfl (wantN rfl) (fun w hw => ev_load1 rfl (fun _ => by kernel_rfl) (p := (b6, 1)) rfl c63 w hw) ?_
                refine SOps.val (v := .int .i64 (s62.size : Int)) rfl (wantN rfl) (fun _ => by kernel_rfl) ?_
                refine SOps.val (v := .int .i64 x1) rfl (wantN rfl) (fun _ => by kernel_rfl) ?_
                refine SOps.enter rfl (wantN rfl) (fun _ => by kernel_rfl) (gap_Skip.sound F ((s50 ++ s22) ++ s53) (s62.size : Int) x1 H61 _ h) ?_
                clear h
                rintro v H66 ⟨x64, e65, rfl, h⟩
                refine SOps.val (v := .tuple #[.int .i64 x64, errV e65]) rfl (wantN rfl) (fun _ => by kernel_rfl) ?_
                refine SOps.val (v := .int .i64 x64) rfl (wantN rfl) (fun _ => by kernel_rfl) ?_
                refine SOps.val (v := errV e65) rfl (wantN rfl) (fun _ => by kernel_rfl) ?_
                refine SOps.val (v := .int .i64 x64) rfl (wantN rfl) (fun _ => by kernel_rfl) ?_
                refine SOps.val (v := errV e65) rfl (wantN rfl) (fun _ => by kernel_rfl) ?_
                refine SOps.nil ?_
                refine SW.seq ?_
                refine SW.region ?_
                refine SOps.val (v := .string ((s50 ++ s22) ++ s53)) rfl (wantN rfl) (fun _ => by kernel_rfl) ?_
                refine SOps.val (v := pv (some (b6, 1))) rfl (wantN rfl) (fun _ => by kernel_rfl) ?_
                obtain ⟨s67, c68, h⟩ := h
                refine SOps.rd (v := .string s67) rfl (wantN rfl) (fun w hw => ev_load1 rfl (fun _ => by kernel_rfl) (p := (b6, 1)) rfl c68 w hw) ?_
                refine SOps.val (v := .int .i64 (s67.size : Int)) rfl (wantN rfl) (fun _ => by kernel_rfl) ?_
                refine SOps.val (v := .int .i64 x1) rfl (wantN rfl) (fun _ => by kernel_rfl) ?_
                refine SOps.enter rfl (wantN rfl) (fun _ => by kernel_rfl) (gap_Count.sound F ((s50 ++ s22) ++ s53) (s67.size : Int) x1 H66 _ h) ?_
                clear h
                rintro v H71 ⟨x69, e70, rfl, h⟩
                refine SOps.val (v := .tuple #[.int .i64 x69, errV e70]) rfl (wantN rfl) (fun _ => by kernel_rfl) ?_
                refine SOps.val (v := .int .i64 x69) rfl (wantN rfl) (fun _ => by kernel_rfl) ?_
                refine SOps.val (v := errV e70) rfl (wantN rfl) (fun _ => by kernel_rfl) ?_
                refine SOps.val (v := .int .i64 x69) rfl (wantN rfl) (fun _ => by kernel_rfl) ?_
                refine SOps.val (v := errV e70) rfl (wantN rfl) (fun _ => by kernel_rfl) ?_
                refine SOps.nil ?_
                refine SW.seq ?_
                refine SW.region ?_
                refine SOps.val (v := .string s22) rfl (wantN rfl) (fun _ => by kernel_rfl) ?_
                refine SOps.val (v := .int .i64 x2) rfl (wantN rfl) (fun _ => by kernel_rfl) ?_
                refine SOps.val (v := pv (some (b6, 0))) rfl (wantN rfl) (fun _ => by kernel_rfl) ?_
                obtain ⟨l72, c73, h⟩ := h
                refine SOps.rd (v := sv l72) rfl (wantN rfl) (fun w hw => ev_load1 rfl (fun _ => by kernel_rfl) (p := (b6, 0)) rfl c73 w hw) ?_
                refine SOps.enter rfl (wantN rfl) (fun _ => by kernel_rfl) (ladingref06_Put.sound F x2 l72 H71 _ h) ?_
                clear h
                rintro v H75 ⟨s74, rfl, h⟩
                refine SOps.val (v := .bool (decide (s22 = s74))) rfl (wantN rfl) (fun w => ev_eqS rfl rfl rfl w) ?_
                refine SOps.val (v := .bool (decide (s22 = s74))) rfl (wantN rfl) (fun _ => by kernel_rfl) ?_
                by_cases c76 : s22 = s74
                · replace h := h.1 c76
                  have dc76 : (decide (s22 = s74)) = true := (decide_eq_true c76)
                  refine SOps.val (v := errV e23) rfl (wantY (c := decide (s22 = s74)) rfl rfl rfl dc76) (fun _ => by kernel_rfl) ?_
                  rcases e23 with _ | v77
                  · replace h := h.1 rfl
                    refine SOps.val (v := .bool true) rfl (wantY (c := decide (s22 = s74)) rfl rfl rfl dc76) (fun w => ev_errEq (e := none) rfl Tryd.underlying24 rfl rfl w) ?_
                    refine SOps.val (v := .bool true) rfl (wantN rfl) (fun w => ev_pickT (v := .bool true) rfl (t := decide (s22 = s74)) rfl dc76 rfl w) ?_
                    refine SOps.val (v := .bool true) rfl (wantN rfl) (fun _ => by kernel_rfl) ?_
                    refine SOps.val (v := errV e60) rfl (wantY (c := true) rfl rfl rfl rfl) (fun _ => by kernel_rfl) ?_
                    rcases e60 with _ | v78
                    · replace h := h.1 rfl
                      refine SOps.val (v := .bool true) rfl (wantY (c := true) rfl rfl rfl rfl) (fun w => ev_errEq (e := none) rfl Tryd.underlying24 rfl rfl w) ?_
                      refine SOps.val (v := .bool true) rfl (wantN rfl) (fun w => ev_pickT (v := .bool true) rfl (t := true) rfl rfl rfl w) ?_
                      refine SOps.val (v := .bool true) rfl (wantN rfl) (fun _ => by kernel_rfl) ?_
                      refine SOps.val (v := sv l58) rfl (wantY (c := true) rfl rfl rfl rfl) (fun _ => by kernel_rfl) ?_
                      refine SOps.val (v := pv (some (b6, 0))) rfl (wantY (c := true) rfl rfl rfl rfl) (fun _ => by kernel_rfl) ?_
                      obtain ⟨l79, c80, h⟩ := h
                      refine SOps.rd (v := sv l79) rfl (wantY (c := true) rfl rfl rfl rfl) (fun w hw => ev_load1 rfl (fun _ => by kernel_rfl) (p := (b6, 0)) rfl c80 w hw) ?_
                      refine SOps.enter rfl (wantY (c := true) rfl rfl rfl rfl) (fun _ => by kernel_rfl) (ladingref05_Ints.sound F l58 l79 H75 _ h) ?_
                      clear h
                      rintro v H82 ⟨q81, rfl, h⟩
                      refine SOps.val (v := .bool q81) rfl (wantN rfl) (fun w => ev_pickT (v := .bool q81) rfl (t := true) rfl rfl rfl w) ?_
                      refine SOps.val (v := .bool q81) rfl (wantN rfl) (fun _ => by kernel_rfl) ?_
                      by_cases c83 : q81 = true
                      · replace h := h.1 c83
                        have dc83 : q81 = true := c83
                        refine SOps.val (v := .int .i64 x59) rfl (wantY (c := q81) rfl rfl rfl dc83) (fun _ => by kernel_rfl) ?_
                        refine SOps.val (v := pv (some (b6, 1))) rfl (wantY (c := q81) rfl rfl rfl dc83) (fun _ => by kernel_rfl) ?_
                        obtain ⟨s84, c85, h⟩ := h
                        refine SOps.rd (v := .string s84) rfl (wantY (c := q81) rfl rfl rfl dc83) (fun w hw => ev_load1 rfl (fun _ => by kernel_rfl) (p := (b6, 1)) rfl c85 w hw) ?_
                        refine SOps.val (v := .int .i64 (s84.size : Int)) rfl (wantY (c := q81) rfl rfl rfl dc83) (fun _ => by kernel_rfl) ?_
                        refine SOps.val (v := .string s22) rfl (wantY (c := q81) rfl rfl rfl dc83) (fun _ => by kernel_rfl) ?_
                        refine SOps.val (v := .int .i64 (s22.size : Int)) rfl (wantY (c := q81) rfl rfl rfl dc83) (fun _ => by kernel_rfl) ?_
                        refine SOps.val (v := .int .i64 (w64 ((s84.size : Int) + (s22.size : Int)))) rfl (wantY (c := q81) rfl rfl rfl dc83) (fun _ => by kernel_rfl) ?_
                        refine SOps.val (v := .bool (x59 == (w64 ((s84.size : Int) + (s22.size : Int))))) rfl (wantY (c := q81) rfl rfl rfl dc83) (fun _ => by kernel_rfl) ?_
                        refine SOps.val (v := .bool (x59 == (w64 ((s84.size : Int) + (s22.size : Int))))) rfl (wantN rfl) (fun w => ev_pickT (v := .bool (x59 == (w64 ((s84.size : Int) + (s22.size : Int))))) rfl (t := q81) rfl dc83 rfl w) ?_
                        refine SOps.val (v := .bool (x59 == (w64 ((s84.size : Int) + (s22.size : Int))))) rfl (wantN rfl) (fun _ => by kernel_rfl) ?_
                        by_cases c86 : x59 = (w64 ((s84.size : Int) + (s22.size : Int)))
                        · replace h := h.1 c86
                          have dc86 : (x59 == (w64 ((s84.size : Int) + (s22.size : Int)))) = true := (beq_iff_eq.mpr c86)
                          refine SOps.val (v := errV e65) rfl (wantY (c := (x59 == (w64 ((s84.size : Int) + (s22.size : Int))))) rfl rfl rfl dc86) (fun _ => by kernel_rfl) ?_
                          rcases e65 with _ | v87
                          · replace h := h.1 rfl
                            refine SOps.val (v := .bool true) rfl (wantY (c := (x59 == (w64 ((s84.size : Int) + (s22.size : Int))))) rfl rfl rfl dc86) (fun w => ev_errEq (e := none) rfl Tryd.underlying24 rfl rfl w) ?_
                            refine SOps.val (v := .bool true) rfl (wantN rfl) (fun w => ev_pickT (v := .bool true) rfl (t := (x59 == (w64 ((s84.size : Int) + (s22.size : Int))))) rfl dc86 rfl w) ?_
                            refine SOps.val (v := .bool true) rfl (wantN rfl) (fun _ => by kernel_rfl) ?_
                            refine SOps.val (v := .int .i64 x64) rfl (wantY (c := true) rfl rfl rfl rfl) (fun _ => by kernel_rfl) ?_
                            refine SOps.val (v := .int .i64 x59) rfl (wantY (c := true) rfl rfl rfl rfl) (fun _ => by kernel_rfl) ?_
                            refine SOps.val (v := .bool (x64 == x59)) rfl (wantY (c := true) rfl rfl rfl rfl) (fun _ => by kernel_rfl) ?_
                            refine SOps.val (v := .bool (x64 == x59)) rfl (wantN rfl) (fun w => ev_pickT (v := .bool (x64 == x59)) rfl (t := true) rfl rfl rfl w) ?_
                            refine SOps.val (v := .bool (x64 == x59)) rfl (wantN rfl) (fun _ => by kernel_rfl) ?_
                            by_cases c88 : x64 = x59
                            · replace h := h.1 c88
                              have dc88 : (x64 == x59) = true := (beq_iff_eq.mpr c88)
                              refine SOps.val (v := errV e70) rfl (wantY (c := (x64 == x59)) rfl rfl rfl dc88) (fun _ => by kernel_rfl) ?_
                              rcases e70 with _ | v89
                              · replace h := h.1 rfl
                                refine SOps.val (v := .bool true) rfl (wantY (c := (x64 == x59)) rfl rfl rfl dc88) (fun w => ev_errEq (e := none) rfl Tryd.underlying24 rfl rfl w) ?_
                                refine SOps.val (v := .bool true) rfl (wantN rfl) (fun w => ev_pickT (v := .bool true) rfl (t := (x64 == x59)) rfl dc88 rfl w) ?_
                                refine SOps.val (v := .bool true) rfl (wantN rfl) (fun _ => by kernel_rfl) ?_
                                refine SOps.val (v := .int .i64 x69) rfl (wantY (c := true) rfl rfl rfl rfl) (fun _ => by kernel_rfl) ?_
                                refine SOps.val (v := pv (some (b6, 0))) rfl (wantY (c := true) rfl rfl rfl rfl) (fun _ => by kernel_rfl) ?_
                                obtain ⟨l90, c91, h⟩ := h
                                refine SOps.rd (v := sv l90) rfl (wantY (c := true) rfl rfl rfl rfl) (fun w hw => ev_load1 rfl (fun _ => by kernel_rfl) (p := (b6, 0)) rfl c91 w hw) ?_
                                refine SOps.val (v := .int .i64 (l90.len : Int)) rfl (wantY (c := true) rfl rfl rfl rfl) (fun _ => by kernel_rfl) ?_
                                refine SOps.val (v := .bool (x69 == (l90.len : Int))) rfl (wantY (c := true) rfl rfl rfl rfl) (fun _ => by kernel_rfl) ?_
                                refine SOps.val (v := .bool (x69 == (l90.len : Int))) rfl (wantN rfl) (fun w => ev_pickT (v := .bool (x69 == (l90.len : Int))) rfl (t := true) rfl rfl rfl w) ?_
                                refine SOps.val (v := .bool (x69 == (l90.len : Int))) rfl (wantN rfl) (fun _ => by kernel_rfl) ?_
                                refine SOps.nil ?_
                                obtain ⟨Hr, hr, h⟩ := h
                                exact SW.ret (retQ.mk (.bool (x69 == (l90.len : Int))) (res1 rfl rfl) hr ⟨(x69 == (l90.len : Int)), rfl, h⟩)
                              · replace h := h.2 v89 rfl
                                refine SOps.val (v := .bool false) rfl (wantY (c := (x64 == x59)) rfl rfl rfl dc88) (fun w => ev_errEq (e := some v89) rfl Tryd.underlying24 rfl rfl w) ?_
                                refine SOps.val (v := .bool false) rfl (wantN rfl) (fun w => ev_pickT (v := .bool false) rfl (t := (x64 == x59)) rfl dc88 rfl w) ?_
                                refine SOps.val (v := .bool false) rfl (wantN rfl) (fun _ => by kernel_rfl) ?_
                                refine SOps.off rfl (wantX (c := false) rfl rfl rfl rfl) ?_
                                refine SOps.off rfl (wantX (c := false) rfl rfl rfl rfl) ?_
                                refine SOps.off rfl (wantX (c := false) rfl rfl rfl rfl) ?_
                                refine SOps.off rfl (wantX (c := false) rfl rfl rfl rfl) ?_
                                refine SOps.off rfl (wantX (c := false) rfl rfl rfl rfl) ?_
                                refine SOps.val (v := .bool false) rfl (wantN rfl) (fun w => ev_pickF (v := .bool false) rfl (t := false) rfl rfl rfl w) ?_
                                refine SOps.val (v := .bool false) rfl (wantN rfl) (fun _ => by kernel_rfl) ?_
                                refine SOps.nil ?_
                                obtain ⟨Hr, hr, h⟩ := h
                                exact SW.ret (retQ.mk (.bool false) (res1 rfl rfl) hr ⟨false, rfl, h⟩)
                            · replace h := h.2 c88
                              have dc88 : (x64 == x59) = false := (beq_eq_false_iff_ne.mpr c88)
                              refine SOps.off rfl (wantX (c := (x64 == x59)) rfl rfl rfl dc88) ?_
                              refine SOps.off rfl (wantX (c := (x64 == x59)) rfl rfl rfl dc88) ?_
                              refine SOps.val (v := .bool false) rfl (wantN rfl) (fun w => ev_pickF (v := .bool false) rfl (t := (x64 == x59)) rfl dc88 rfl w) ?_
                              refine SOps.val (v := .bool false) rfl (wantN rfl) (fun _ => by kernel_rfl) ?_
                              refine SOps.off rfl (wantX (c := false) rfl rfl rfl rfl) ?_
                              refine SOps.off rfl (wantX (c := false) rfl rfl rfl rfl) ?_
                              refine SOps.off rfl (wantX (c := false) rfl rfl rfl rfl) ?_
                              refine SOps.off rfl (wantX (c := false) rfl rfl rfl rfl) ?_
                              refine SOps.off rfl (wantX (c := false) rfl rfl rfl rfl) ?_
                              refine SOps.val (v := .bool false) rfl (wantN rfl) (fun w => ev_pickF (v := .bool false) rfl (t := false) rfl rfl rfl w) ?_
                              refine SOps.val (v := .bool false) rfl (wantN rfl) (fun _ => by kernel_rfl) ?_
                              refine SOps.nil ?_
                              obtain ⟨Hr, hr, h⟩ := h
                              exact SW.ret (retQ.mk (.bool false) (res1 rfl rfl) hr ⟨false, rfl, h⟩)
                          · replace h := h.2 v87 rfl
                            refine SOps.val (v := .bool false) rfl (wantY (c := (x59 == (w64 ((s84.size : Int) + (s22.size : Int))))) rfl rfl rfl dc86) (fun w => ev_errEq (e := some v87) rfl Tryd.underlying24 rfl rfl w) ?_
                            refine SOps.val (v := .bool false) rfl (wantN rfl) (fun w => ev_pickT (v := .bool false) rfl (t := (x59 == (w64 ((s84.size : Int) + (s22.size : Int))))) rfl dc86 rfl w) ?_
                            refine SOps.val (v := .bool false) rfl (wantN rfl) (fun _ => by kernel_rfl) ?_
                            refine SOps.off rfl (wantX (c := false) rfl rfl rfl rfl) ?_
                            refine SOps.off rfl (wantX (c := false) rfl rfl rfl rfl) ?_
                            refine SOps.off rfl (wantX (c := false) rfl rfl rfl rfl) ?_
                            refine SOps.val (v := .bool false) rfl (wantN rfl) (fun w => ev_pickF (v := .bool false) rfl (t := false) rfl rfl rfl w) ?_
                            refine SOps.val (v := .bool false) rfl (wantN rfl) (fun _ => by kernel_rfl) ?_
                            refine SOps.off rfl (wantX (c := false) rfl rfl rfl rfl) ?_
                            refine SOps.off rfl (wantX (c := false) rfl rfl rfl rfl) ?_
                            refine SOps.val (v := .bool false) rfl (wantN rfl) (fun w => ev_pickF (v := .bool false) rfl (t := false) rfl rfl rfl w) ?_
                            refine SOps.val (v := .bool false) rfl (wantN rfl) (fun _ => by kernel_rfl) ?_
                            refine SOps.off rfl (wantX (c := false) rfl rfl rfl rfl) ?_
                            refine SOps.off rfl (wantX (c := false) rfl rfl rfl rfl) ?_
                            refine SOps.off rfl (wantX (c := false) rfl rfl rfl rfl) ?_
                            refine SOps.off rfl (wantX (c := false) rfl rfl rfl rfl) ?_
                            refine SOps.off rfl (wantX (c := false) rfl rfl rfl rfl) ?_
                            refine SOps.val (v := .bool false) rfl (wantN rfl) (fun w => ev_pickF (v := .bool false) rfl (t := false) rfl rfl rfl w) ?_
                            refine SOps.val (v := .bool false) rfl (wantN rfl) (fun _ => by kernel_rfl) ?_
                            refine SOps.nil ?_
                            obtain ⟨Hr, hr, h⟩ := h
                            exact SW.ret (retQ.mk (.bool false) (res1 rfl rfl) hr ⟨false, rfl, h⟩)
                        · replace h := h.2 c86
                          have dc86 : (x59 == (w64 ((s84.size : Int) + (s22.size : Int)))) = false := (beq_eq_false_iff_ne.mpr c86)
                          refine SOps.off rfl (wantX (c := (x59 == (w64 ((s84.size : Int) + (s22.size : Int))))) rfl rfl rfl dc86) ?_
                          refine SOps.off rfl (wantX (c := (x59 == (w64 ((s84.size : Int) + (s22.size : Int))))) rfl rfl rfl dc86) ?_
                          refine SOps.val (v := .bool false) rfl (wantN rfl) (fun w => ev_pickF (v := .bool false) rfl (t := (x59 == (w64 ((s84.size : Int) + (s22.size : Int))))) rfl dc86 rfl w) ?_
                          refine SOps.val (v := .bool false) rfl (wantN rfl) (fun _ => by kernel_rfl) ?_
                          refine SOps.off rfl (wantX (c := false) rfl rfl rfl rfl) ?_
                          refine SOps.off rfl (wantX (c := false) rfl rfl rfl rfl) ?_
                          refine SOps.off rfl (wantX (c := false) rfl rfl rfl rfl) ?_
                          refine SOps.val (v := .bool false) rfl (wantN rfl) (fun w => ev_pickF (v := .bool false) rfl (t := false) rfl rfl rfl w) ?_
                          refine SOps.val (v := .bool false) rfl (wantN rfl) (fun _ => by kernel_rfl) ?_
                          refine SOps.off rfl (wantX (c := false) rfl rfl rfl rfl) ?_
                          refine SOps.off rfl (wantX (c := false) rfl rfl rfl rfl) ?_
                          refine SOps.val (v := .bool false) rfl (wantN rfl) (fun w => ev_pickF (v := .bool false) rfl (t := false) rfl rfl rfl w) ?_
                          refine SOps.val (v := .bool false) rfl (wantN rfl) (fun _ => by kernel_rfl) ?_
                          refine SOps.off rfl (wantX (c := false) rfl rfl rfl rfl) ?_
                          refine SOps.off rfl (wantX (c := false) rfl rfl rfl rfl) ?_
                          refine SOps.off rfl (wantX (c := false) rfl rfl rfl rfl) ?_
                          refine SOps.off rfl (wantX (c := false) rfl rfl rfl rfl) ?_
                          refine SOps.off rfl (wantX (c := false) rfl rfl rfl rfl) ?_
                          refine SOps.val (v := .bool false) rfl (wantN rfl) (fun w => ev_pickF (v := .bool false) rfl (t := false) rfl rfl rfl w) ?_
                          refine SOps.val (v := .bool false) rfl (wantN rfl) (fun _ => by kernel_rfl) ?_
                          refine SOps.nil ?_
                          obtain ⟨Hr, hr, h⟩ := h
                          exact SW.ret (retQ.mk (.bool false) (res1 rfl rfl) hr ⟨false, rfl, h⟩)
                      · replace h := h.2 c83
                        have dc83 : q81 = false := (Bool.eq_false_iff.mpr c83)
                        refine SOps.off rfl (wantX (c := q81) rfl rfl rfl dc83) ?_
                        refine SOps.off rfl (wantX (c := q81) rfl rfl rfl dc83) ?_
                        refine SOps.off rfl (wantX (c := q81) rfl rfl rfl dc83) ?_
                        refine SOps.off rfl (wantX (c := q81) rfl rfl rfl dc83) ?_
                        refine SOps.off rfl (wantX (c := q81) rfl rfl rfl dc83) ?_
                        refine SOps.off rfl (wantX (c := q81) rfl rfl rfl dc83) ?_
                        refine SOps.off rfl (wantX (c := q81) rfl rfl rfl dc83) ?_
                        refine SOps.off rfl (wantX (c := q81) rfl rfl rfl dc83) ?_
                        refine SOps.val (v := .bool false) rfl (wantN rfl) (fun w => ev_pickF (v := .bool false) rfl (t := q81) rfl dc83 rfl w) ?_
                        refine SOps.val (v := .bool false) rfl (wantN rfl) (fun _ => by kernel_rfl) ?_
                        refine SOps.off rfl (wantX (c := false) rfl rfl rfl rfl) ?_
                        refine SOps.off rfl (wantX (c := false) rfl rfl rfl rfl) ?_
                        refine SOps.val (v := .bool false) rfl (wantN rfl) (fun w => ev_pickF (v := .bool false) rfl (t := false) rfl rfl rfl w) ?_
                        refine SOps.val (v := .bool false) rfl (wantN rfl) (fun _ => by kernel_rfl) ?_
                        refine SOps.off rfl (wantX (c := false) rfl rfl rfl rfl) ?_
                        refine SOps.off rfl (wantX (c := false) rfl rfl rfl rfl) ?_
                        refine SOps.off rfl (wantX (c := false) rfl rfl rfl rfl) ?_
                        refine SOps.val (v := .bool false) rfl (wantN rfl) (fun w => ev_pickF (v := .bool false) rfl (t := false) rfl rfl rfl w) ?_
                        refine SOps.val (v := .bool false) rfl (wantN rfl) (fun _ => by kernel_rfl) ?_
                        refine SOps.off rfl (wantX (c := false) rfl rfl rfl rfl) ?_
                        refine SOps.off rfl (wantX (c := false) rfl rfl rfl rfl) ?_
                        refine SOps.val (v := .bool false) rfl (wantN rfl) (fun w => ev_pickF (v := .bool false) rfl (t := false) rfl rfl rfl w) ?_
                        refine SOps.val (v := .bool false) rfl (wantN rfl) (fun _ => by kernel_rfl) ?_
                        refine SOps.off rfl (wantX (c := false) rfl rfl rfl rfl) ?_
                        refine SOps.off rfl (wantX (c := false) rfl rfl rfl rfl) ?_
                        refine SOps.off rfl (wantX (c := false) rfl rfl rfl rfl) ?_
                        refine SOps.off rfl (wantX (c := false) rfl rfl rfl rfl) ?_
                        refine SOps.off rfl (wantX (c := false) rfl rfl rfl rfl) ?_
                        refine SOps.val (v := .bool false) rfl (wantN rfl) (fun w => ev_pickF (v := .bool false) rfl (t := false) rfl rfl rfl w) ?_
                        refine SOps.val (v := .bool false) rfl (wantN rfl) (fun _ => by kernel_rfl) ?_
                        refine SOps.nil ?_
                        obtain ⟨Hr, hr, h⟩ := h
                        exact SW.ret (retQ.mk (.bool false) (res1 rfl rfl) hr ⟨false, rfl, h⟩)
                    · replace h := h.2 v78 rfl
                      refine SOps.val (v := .bool false) rfl (wantY (c := true) rfl rfl rfl rfl) (fun w => ev_errEq (e := some v78) rfl Tryd.underlying24 rfl rfl w) ?_
                      refine SOps.val (v := .bool false) rfl (wantN rfl) (fun w => ev_pickT (v := .bool false) rfl (t := true) rfl rfl rfl w) ?_
                      refine SOps.val (v := .bool false) rfl (wantN rfl) (fun _ => by kernel_rfl) ?_
                      refine SOps.off rfl (wantX (c := false) rfl rfl rfl rfl) ?_
                      refine SOps.off rfl (wantX (c := false) rfl rfl rfl rfl) ?_
                      refine SOps.off rfl (wantX (c := false) rfl rfl rfl rfl) ?_
                      refine SOps.off rfl (wantX (c := false) rfl rfl rfl rfl) ?_
                      refine SOps.val (v := .bool false) rfl (wantN rfl) (fun w => ev_pickF (v := .bool false) rfl (t := false) rfl rfl rfl w) ?_
                      refine SOps.val (v := .bool false) rfl (wantN rfl) (fun _ => by kernel_rfl) ?_
                      refine SOps.off rfl (wantX (c := false) rfl rfl rfl rfl) ?_
                      refine SOps.off rfl (wantX (c := false) rfl rfl rfl rfl) ?_
                      refine SOps.off rfl (wantX (c := false) rfl rfl rfl rfl) ?_
                      refine SOps.off rfl (wantX (c := false) rfl rfl rfl rfl) ?_
                      refine SOps.off rfl (wantX (c := false) rfl rfl rfl rfl) ?_
                      refine SOps.off rfl (wantX (c := false) rfl rfl rfl rfl) ?_
                      refine SOps.off rfl (wantX (c := false) rfl rfl rfl rfl) ?_
                      refine SOps.off rfl (wantX (c := false) rfl rfl rfl rfl) ?_
                      refine SOps.val (v := .bool false) rfl (wantN rfl) (fun w => ev_pickF (v := .bool false) rfl (t := false) rfl rfl rfl w) ?_
                      refine SOps.val (v := .bool false) rfl (wantN rfl) (fun _ => by kernel_rfl) ?_
                      refine SOps.off rfl (wantX (c := false) rfl rfl rfl rfl) ?_
                      refine SOps.off rfl (wantX (c := false) rfl rfl rfl rfl) ?_
                      refine SOps.val (v := .bool false) rfl (wantN rfl) (fun w => ev_pickF (v := .bool false) rfl (t := false) rfl rfl rfl w) ?_
                      refine SOps.val (v := .bool false) rfl (wantN rfl) (fun _ => by kernel_rfl) ?_
                      refine SOps.off rfl (wantX (c := false) rfl rfl rfl rfl) ?_
                      refine SOps.off rfl (wantX (c := false) rfl rfl rfl rfl) ?_
                      refine SOps.off rfl (wantX (c := false) rfl rfl rfl rfl) ?_
                      refine SOps.val (v := .bool false) rfl (wantN rfl) (fun w => ev_pickF (v := .bool false) rfl (t := false) rfl rfl rfl w) ?_
                      refine SOps.val (v := .bool false) rfl (wantN rfl) (fun _ => by kernel_rfl) ?_
                      refine SOps.off rfl (wantX (c := false) rfl rfl rfl rfl) ?_
                      refine SOps.off rfl (wantX (c := false) rfl rfl rfl rfl) ?_
                      refine SOps.val (v := .bool false) rfl (wantN rfl) (fun w => ev_pickF (v := .bool false) rfl (t := false) rfl rfl rfl w) ?_
                      refine SOps.val (v := .bool false) rfl (wantN rfl) (fun _ => by kernel_rfl) ?_
                      refine SOps.off rfl (wantX (c := false) rfl rfl rfl rfl) ?_
                      refine SOps.off rfl (wantX (c := false) rfl rfl rfl rfl) ?_
                      refine SOps.off rfl (wantX (c := false) rfl rfl rfl rfl) ?_
                      refine SOps.off rfl (wantX (c := false) rfl rfl rfl rfl) ?_
                      refine SOps.off rfl (wantX (c := false) rfl rfl rfl rfl) ?_
                      refine SOps.val (v := .bool false) rfl (wantN rfl) (fun w => ev_pickF (v := .bool false) rfl (t := false) rfl rfl rfl w) ?_
                      refine SOps.val (v := .bool false) rfl (wantN rfl) (fun _ => by kernel_rfl) ?_
                      refine SOps.nil ?_
                      obtain ⟨Hr, hr, h⟩ := h
                      exact SW.ret (retQ.mk (.bool false) (res1 rfl rfl) hr ⟨false, rfl, h⟩)
                  · replace h := h.2 v77 rfl
                    refine SOps.val (v := .bool false) rfl (wantY (c := decide (s22 = s74)) rfl rfl rfl dc76) (fun w => ev_errEq (e := some v77) rfl Tryd.underlying24 rfl rfl w) ?_
                    refine SOps.val (v := .bool false) rfl (wantN rfl) (fun w => ev_pickT (v := .bool false) rfl (t := decide (s22 = s74)) rfl dc76 rfl w) ?_
                    refine SOps.val (v := .bool false) rfl (wantN rfl) (fun _ => by kernel_rfl) ?_
                    refine SOps.off rfl (wantX (c := false) rfl rfl rfl rfl) ?_
                    refine SOps.off rfl (wantX (c := false) rfl rfl rfl rfl) ?_
                    refine SOps.val (v := .bool false) rfl (wantN rfl) (fun w => ev_pickF (v := .bool false) rfl (t := false) rfl rfl rfl w) ?_
                    refine SOps.val (v := .bool false) rfl (wantN rfl) (fun _ => by kernel_rfl) ?_
                    refine SOps.off rfl (wantX (c := false) rfl rfl rfl rfl) ?_
                    refine SOps.off rfl (wantX (c := false) rfl rfl rfl rfl) ?_
                    refine SOps.off rfl (wantX (c := false) rfl rfl rfl rfl) ?_
                    refine SOps.off rfl (wantX (c := false) rfl rfl rfl rfl) ?_
                    refine SOps.val (v := .bool false) rfl (wantN rfl) (fun w => ev_pickF (v := .bool false) rfl (t := false) rfl rfl rfl w) ?_
                    refine SOps.val (v := .bool false) rfl (wantN rfl) (fun _ => by kernel_rfl) ?_
                    refine SOps.off rfl (wantX (c := false) rfl rfl rfl rfl) ?_
                    refine SOps.off rfl (wantX (c := false) rfl rfl rfl rfl) ?_
                    refine SOps.off rfl (wantX (c := false) rfl rfl rfl rfl) ?_
                    refine SOps.off rfl (wantX (c := false) rfl rfl rfl rfl) ?_
                    refine SOps.off rfl (wantX (c := false) rfl rfl rfl rfl) ?_
                    refine SOps.off rfl (wantX (c := false) rfl rfl rfl rfl) ?_
                    refine SOps.off rfl (wantX (c := false) rfl rfl rfl rfl) ?_
                    refine SOps.off rfl (wantX (c := false) rfl rfl rfl rfl) ?_
                    refine SOps.val (v := .bool false) rfl (wantN rfl) (fun w => ev_pickF (v := .bool false) rfl (t := false) rfl rfl rfl w) ?_
                    refine SOps.val (v := .bool false) rfl (wantN rfl) (fun _ => by kernel_rfl) ?_
                    refine SOps.off rfl (wantX (c := false) rfl rfl rfl rfl) ?_
                    refine SOps.off rfl (wantX (c := false) rfl rfl rfl rfl) ?_
                    refine SOps.val (v := .bool false) rfl (wantN rfl) (fun w => ev_pickF (v := .bool false) rfl (t := false) rfl rfl rfl w) ?_
                    refine SOps.val (v := .bool false) rfl (wantN rfl) (fun _ => by kernel_rfl) ?_
                    refine SOps.off rfl (wantX (c := false) rfl rfl rfl rfl) ?_
                    refine SOps.off rfl (wantX (c := false) rfl rfl rfl rfl) ?_
                    refine SOps.off rfl (wantX (c := false) rfl rfl rfl rfl) ?_
                    refine SOps.val (v := .bool false) rfl (wantN rfl) (fun w => ev_pickF (v := .bool false) rfl (t := false) rfl rfl rfl w) ?_
                    refine SOps.val (v := .bool false) rfl (wantN rfl) (fun _ => by kernel_rfl) ?_
                    refine SOps.off rfl (wantX (c := false) rfl rfl rfl rfl) ?_
                    refine SOps.off rfl (wantX (c := false) rfl rfl rfl rfl) ?_
                    refine SOps.val (v := .bool false) rfl (wantN rfl) (fun w => ev_pickF (v := .bool false) rfl (t := false) rfl rfl rfl w) ?_
                    refine SOps.val (v := .bool false) rfl (wantN rfl) (fun _ => by kernel_rfl) ?_
                    refine SOps.off rfl (wantX (c := false) rfl rfl rfl rfl) ?_
                    refine SOps.off rfl (wantX (c := false) rfl rfl rfl rfl) ?_
                    refine SOps.off rfl (wantX (c := false) rfl rfl rfl rfl) ?_
                    refine SOps.off rfl (wantX (c := false) rfl rfl rfl rfl) ?_
                    refine SOps.off rfl (wantX (c := false) rfl rfl rfl rfl) ?_
                    refine SOps.val (v := .bool false) rfl (wantN rfl) (fun w => ev_pickF (v := .bool false) rfl (t := false) rfl rfl rfl w) ?_
                    refine SOps.val (v := .bool false) rfl (wantN rfl) (fun _ => by kernel_rfl) ?_
                    refine SOps.nil ?_
                    obtain ⟨Hr, hr, h⟩ := h
                    exact SW.ret (retQ.mk (.bool false) (res1 rfl rfl) hr ⟨false, rfl, h⟩)
                · replace h := h.2 c76
                  have dc76 : (decide (s22 = s74)) = false := (decide_eq_false c76)
                  refine SOps.off rfl (wantX (c := decide (s22 = s74)) rfl rfl rfl dc76) ?_
                  refine SOps.off rfl (wantX (c := decide (s22 = s74)) rfl rfl rfl dc76) ?_
                  refine SOps.val (v := .bool false) rfl (wantN rfl) (fun w => ev_pickF (v := .bool false) rfl (t := decide (s22 = s74)) rfl dc76 rfl w) ?_
                  refine SOps.val (v := .bool false) rfl (wantN rfl) (fun _ => by kernel_rfl) ?_
                  refine SOps.off rfl (wantX (c := false) rfl rfl rfl rfl) ?_
                  refine SOps.off rfl (wantX (c := false) rfl rfl rfl rfl) ?_
                  refine SOps.val (v := .bool false) rfl (wantN rfl) (fun w => ev_pickF (v := .bool false) rfl (t := false) rfl rfl rfl w) ?_
                  refine SOps.val (v := .bool false) rfl (wantN rfl) (fun _ => by kernel_rfl) ?_
                  refine SOps.off rfl (wantX (c := false) rfl rfl rfl rfl) ?_
                  refine SOps.off rfl (wantX (c := false) rfl rfl rfl rfl) ?_
                  refine SOps.off rfl (wantX (c := false) rfl rfl rfl rfl) ?_
                  refine SOps.off rfl (wantX (c := false) rfl rfl rfl rfl) ?_
                  refine SOps.val (v := .bool false) rfl (wantN rfl) (fun w => ev_pickF (v := .bool false) rfl (t := false) rfl rfl rfl w) ?_
                  refine SOps.val (v := .bool false) rfl (wantN rfl) (fun _ => by kernel_rfl) ?_
                  refine SOps.off rfl (wantX (c := false) rfl rfl rfl rfl) ?_
                  refine SOps.off rfl (wantX (c := false) rfl rfl rfl rfl) ?_
                  refine SOps.off rfl (wantX (c := false) rfl rfl rfl rfl) ?_
                  refine SOps.off rfl (wantX (c := false) rfl rfl rfl rfl) ?_
                  refine SOps.off rfl (wantX (c := false) rfl rfl rfl rfl) ?_
                  refine SOps.off rfl (wantX (c := false) rfl rfl rfl rfl) ?_
                  refine SOps.off rfl (wantX (c := false) rfl rfl rfl rfl) ?_
                  refine SOps.off rfl (wantX (c := false) rfl rfl rfl rfl) ?_
                  refine SOps.val (v := .bool false) rfl (wantN rfl) (fun w => ev_pickF (v := .bool false) rfl (t := false) rfl rfl rfl w) ?_
                  refine SOps.val (v := .bool false) rfl (wantN rfl) (fun _ => by kernel_rfl) ?_
                  refine SOps.off rfl (wantX (c := false) rfl rfl rfl rfl) ?_
                  refine SOps.off rfl (wantX (c := false) rfl rfl rfl rfl) ?_
                  refine SOps.val (v := .bool false) rfl (wantN rfl) (fun w => ev_pickF (v := .bool false) rfl (t := false) rfl rfl rfl w) ?_
                  refine SOps.val (v := .bool false) rfl (wantN rfl) (fun _ => by kernel_rfl) ?_
                  refine SOps.off rfl (wantX (c := false) rfl rfl rfl rfl) ?_
                  refine SOps.off rfl (wantX (c := false) rfl rfl rfl rfl) ?_
                  refine SOps.off rfl (wantX (c := false) rfl rfl rfl rfl) ?_
                  refine SOps.val (v := .bool false) rfl (wantN rfl) (fun w => ev_pickF (v := .bool false) rfl (t := false) rfl rfl rfl w) ?_
                  refine SOps.val (v := .bool false) rfl (wantN rfl) (fun _ => by kernel_rfl) ?_
                  refine SOps.off rfl (wantX (c := false) rfl rfl rfl rfl) ?_
                  refine SOps.off rfl (wantX (c := false) rfl rfl rfl rfl) ?_
                  refine SOps.val (v := .bool false) rfl (wantN rfl) (fun w => ev_pickF (v := .bool false) rfl (t := false) rfl rfl rfl w) ?_
                  refine SOps.val (v := .bool false) rfl (wantN rfl) (fun _ => by kernel_rfl) ?_
                  refine SOps.off rfl (wantX (c := false) rfl rfl rfl rfl) ?_
                  refine SOps.off rfl (wantX (c := false) rfl rfl rfl rfl) ?_
                  refine SOps.off rfl (wantX (c := false) rfl rfl rfl rfl) ?_
                  refine SOps.off rfl (wantX (c := false) rfl rfl rfl rfl) ?_
                  refine SOps.off rfl (wantX (c := false) rfl rfl rfl rfl) ?_
                  refine SOps.val (v := .bool false) rfl (wantN rfl) (fun w => ev_pickF (v := .bool false) rfl (t := false) rfl rfl rfl w) ?_
                  refine SOps.val (v := .bool false) rfl (wantN rfl) (fun _ => by kernel_rfl) ?_
                  refine SOps.nil ?_
                  obtain ⟨Hr, hr, h⟩ := h
                  exact SW.ret (retQ.mk (.bool false) (res1 rfl rfl) hr ⟨false, rfl, h⟩)
  · replace h := h.2 c10
    have dc10 : q8 = false := (Bool.eq_false_iff.mpr c10)
    refine SW.cond_t (t := !q8) rfl (not_f dc10) ?_
    refine SW.seq ?_
    refine SW.region ?_
    refine SOps.val (v := .bool false) rfl (wantN rfl) (fun _ => by kernel_rfl) ?_
    refine SOps.nil ?_
    obtain ⟨Hr, hr, h⟩ := h
    exact SW.ret (retQ.mk (.bool false) (res1 rfl rfl) hr ⟨false, rfl, h⟩)

end Go.Proofs.YtpnbehgkbfhacaaDoor.K
