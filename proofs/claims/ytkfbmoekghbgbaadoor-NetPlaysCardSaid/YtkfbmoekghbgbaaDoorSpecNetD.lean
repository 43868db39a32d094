/- What the functions of package net do: what the reference's laws reach besides. -/
import Derived.Test.YtkfbmoekghbgbaaDoorSpecNet
import Derived.Test.YtkfbmoekghbgbaaDoorGnet2
import Derived.Test.YtkfbmoekghbgbaaDoorApi2
set_option linter.unusedVariables false
set_option linter.unusedSimpArgs false
namespace Go.Proofs.YtkfbmoekghbgbaaDoor.K
open Go
theorem CodeN {F : Nat} {e : Option EV} {H : SH} {K : Int → SH → Prop} (hg : H.has (0, 0) (rtv 31)) (h : K (codeV e) H) : api_Code.wp F e H K := ⟨hg, h⟩
section
variable {F : Nat} {H H0 : SH} {bn : Nat} {fl : List Fl}
theorem pk3 {x : Fl} : ∀ (j : Nat) (u : Value), [Value.int .i64 x.f, .int .i64 x.t, .string x.d][j]? = some u → x.c[j]? = some u := fun j u hu => by
  have hj : j < 3 := (List.getElem?_eq_some_iff.1 hu).1
  rcases j with _ | _ | _ | j
  · exact hu
  · exact hu
  · exact hu
  · omega
theorem Look_at {i : Int} {x : Fl} {e : Option EV} (hat : ∀ (G : SH) (K' : Int → Int → ByteArray → Bool → Option EV → SH → Prop), SH.le H G → On (NetI bn fl) H0 G → K' x.f x.t x.d x.q e G → net_Net_at.wp F (some (bn, 0)) i G K') (h : On (NetI bn fl) H0 H) {K : Int → Int → ByteArray → Option EV → SH → Prop} (k : ∀ H', On (NetI bn fl) H0 H' → K x.f x.t x.d e H') : net_Net_Look.wp F (some (bn, 0)) i H K := by
  intro b3 hb3
  have c1 : Chain [blkL b3 (pkO z0), nt bn fl] H0 (H.upd b3 (pkO z0)) := ⟨H, On.new hb3, H0, h, .refl _⟩
  refine hat _ _ (le_upd hb3) (Chain.at [blkL b3 (pkO z0)] c1) fun b11 hb11 => ⟨wrs_upd rfl (Nat.le_refl _), ?_⟩
  rw [fly_set]
  have c3 : Chain [blkL b11 (flO x), blkL b3 (pkO z0), nt bn fl] H0 (SH.upd (H.upd b3 (pkO z0)) b11 (flO x)) := ⟨_, On.new hb11, c1⟩
  generalize hGG : SH.upd (H.upd b3 (pkO z0)) b11 (flO x) = G at *
  have hG' : SH.upd (H.upd b3 (pkO z0)) b11 ⟨[.int .i64 x.f, .int .i64 x.t, .string x.d, .bool x.q], 75, false, 4⟩ = G := hGG
  show ∃ (x14 : Int) (x15 : Int) (s16 : ByteArray), SH.row (SH.upd (H.upd b3 (pkO z0)) b11 ⟨[.int .i64 x.f, .int .i64 x.t, .string x.d, .bool x.q], 75, false, 4⟩) (some (b11, 0)) [.int .i64 x14, .int .i64 x15, .string s16] ∧ _
  rw [hG']
  have h11 : On (Blk b11 (flO x)) H0 G := c3.on
  obtain ⟨Hc, b3', c10⟩ := Chain.pull [blkL b11 (flO x)] c3
  have b3' : On (Blk b3 (pkO z0)) Hc G := b3'
  have b3'' : On (Blk b3 (pkO x)) Hc _ := On.setl (k := 0) (vs := [.int .i64 x.f, .int .i64 x.t, .string x.d]) b3'
  refine ⟨x.f, x.t, x.d, row0 (On.blk.1 h11).2.2 pk3, ?_⟩
  show SH.wrs (SH.upd (H.upd b3 (pkO z0)) b11 ⟨[.int .i64 x.f, .int .i64 x.t, .string x.d, .bool x.q], 75, false, 4⟩) (b3, 0) 3 ∧ ∃ (x19 : Int) (x20 : Int) (s21 : ByteArray), SH.row (SH.setl (SH.upd (H.upd b3 (pkO z0)) b11 ⟨[.int .i64 x.f, .int .i64 x.t, .string x.d, .bool x.q], 75, false, 4⟩) (b3, 0) [.int .i64 x.f, .int .i64 x.t, .string x.d]) (some (b3, 0)) [.int .i64 x19, .int .i64 x20, .string s21] ∧ ∃ Hr, SH.le Hr (SH.setl (SH.upd (H.upd b3 (pkO z0)) b11 ⟨[.int .i64 x.f, .int .i64 x.t, .string x.d, .bool x.q], 75, false, 4⟩) (b3, 0) [.int .i64 x.f, .int .i64 x.t, .string x.d]) ∧ K x19 x20 s21 e Hr
  rw [hG']
  refine ⟨b3'.wrs rfl (Nat.le_refl _), x.f, x.t, x.d, row0 (On.blk.1 b3'').2.2 (fun j u hu => hu), _, .refl _, k _ ?_⟩
  exact Chain.at [blkL b3 (pkO x), blkL b11 (flO x)] (⟨Hc, b3'', c10⟩ : Chain [blkL b3 (pkO x), blkL b11 (flO x), nt bn fl] H0 _)
theorem Look_spec {i : Nat} (hi : i < fl.length) (h : On (NetI bn fl) H0 H) {K : Int → Int → ByteArray → Option EV → SH → Prop} (k : ∀ H', On (NetI bn fl) H0 H' → K fl[i].f fl[i].t fl[i].d none H') : net_Net_Look.wp F (some (bn, 0)) (i : Int) H K :=
  Look_at (x := fl[i]) (fun _ _ _ g k' => at_spec hi g k') h k
theorem Look_bad {i : Int} (hi : i < 0 ∨ i ≥ fl.length) (h : On (NetI bn fl) H0 H) {K : Int → Int → ByteArray → Option EV → SH → Prop} (k : ∀ H', On (NetI bn fl) H0 H' → K 0 0 ByteArray.empty (some (.no 9)) H') : net_Net_Look.wp F (some (bn, 0)) i H K :=
  Look_at (x := z0) (fun _ _ _ g k' => at_bad hi g k') h k
theorem Drop_spec {i : Nat} (hF : 10 ≤ F) (hn : fl.length ≤ 1000000) (hi : i < fl.length) (h : On (NetI bn fl) H0 H) {K : Option EV → SH → Prop} (k : ∀ H', On (NetI bn (fl.eraseIdx i)) H0 H' → K none H') : net_Net_Drop.wp F (some (bn, 0)) (i : Int) H K := by
  refine off_spec hF hn hi h fun H' h' b9 hb9 => ⟨wrs_upd rfl (Nat.le_refl _), ?_⟩
  rw [fly_set]
  exact ⟨H', le_upd hb9, k H' h'⟩
theorem Drop_bad {i : Int} (hi : i < 0 ∨ i ≥ fl.length) (h : On (NetI bn fl) H0 H) {K : Option EV → SH → Prop} (k : ∀ H', On (NetI bn fl) H0 H' → K (some (.no 9)) H') : net_Net_Drop.wp F (some (bn, 0)) i H K := by
  refine off_bad hi h fun H' h' b9 hb9 => ⟨wrs_upd rfl (Nat.le_refl _), ?_⟩
  rw [fly_set]
  exact ⟨H', le_upd hb9, k H' h'⟩
/-! ### a net that isn't there -/
theorem off_none {i : Int} {K : Int → Int → ByteArray → Bool → Option EV → SH → Prop} (k : ∀ H', SH.le H H' → K 0 0 ByteArray.empty false (some (.no 1)) H') : net_Net_off.wp F none i H K := by
  intro b3 hb3
  have c1 : Chain [blkL b3 (flO z0)] H (H.upd b3 (flO z0)) := ⟨H, On.new hb3, .refl _⟩
  refine at_none fun b11 hb11 => ⟨wrs_upd rfl (Nat.le_refl _), o_some ?_⟩
  rw [fly_set]
  have c2 : Chain [blkL b11 (flO z0), blkL b3 (flO z0)] H (SH.upd (H.upd b3 (flO z0)) b11 (flO z0)) := ⟨_, On.new hb11, c1⟩
  show net_Net_off.j1 F K b3 b11 (some (.no 1)) (SH.upd (H.upd b3 (flO z0)) b11 (flO z0))
  generalize SH.upd (H.upd b3 (flO z0)) b11 (flO z0) = J at *
  have b11' : On (Blk b11 (flO z0)) H J := c2.on
  obtain ⟨Hc, b3', c10⟩ := Chain.pull [blkL b11 (flO z0)] c2
  have b3' : On (Blk b3 (flO z0)) Hc J := b3'
  have b3'' := On.setl (k := 0) (vs := [.int .i64 0, .int .i64 0, .string ByteArray.empty, .bool false]) b3'
  exact ⟨0, 0, ByteArray.empty, false, row0 (On.blk.1 b11').2.2 fun j u hu => hu, b3'.wrs rfl (Nat.le_refl _), 0, 0, ByteArray.empty, false, row0 (On.blk.1 b3'').2.2 (fun j u hu => hu), _, .refl _, k _ (c10.le.trans b3''.le)⟩
theorem Take_none {i : Int} {K : Int → Int → ByteArray → Option EV → SH → Prop} (k : ∀ H', SH.le H H' → K 0 0 ByteArray.empty (some (.no 1)) H') : net_Net_Take.wp F none i H K := by
  intro b3 hb3
  refine off_none fun H1 h1 b11 hb11 => ⟨wrs_upd rfl (Nat.le_refl _), ?_⟩
  rw [fly_set]
  have hb3' : H1 b3 = some (pkO z0) := h1 _ _ (SH.upd_same _ _ _)
  have hne : b3 ≠ b11 := by rintro rfl; rw [hb11] at hb3'; cases hb3'
  have hG : (SH.upd H1 b11 (flO z0)) b3 = some (pkO z0) := by rw [SH.upd_ne _ _ hne]; exact hb3'
  have hb11' : (SH.upd H1 b11 (flO z0)) b11 = some (flO z0) := SH.upd_same _ _ _
  have hle : SH.le H (SH.upd H1 b11 (flO z0)) := (le_upd hb3).trans (h1.trans (le_upd hb11))
  have hGG : SH.upd H1 b11 ⟨[.int .i64 0, .int .i64 0, .string ByteArray.empty, .bool false], 75, false, 4⟩ = SH.upd H1 b11 (flO z0) := rfl
  rw [hGG]
  generalize SH.upd H1 b11 (flO z0) = G at *
  have on : On (Blk b3 (pkO z0)) H G := On.blk.2 ⟨hle, hb3, hG⟩
  have on' : On (Blk b3 (pkO z0)) H _ := On.setl (k := 0) (vs := [.int .i64 0, .int .i64 0, .string ByteArray.empty]) on
  exact ⟨0, 0, ByteArray.empty, row0 hb11' (pk3 (x := z0)), on.wrs rfl (Nat.le_refl _), 0, 0, ByteArray.empty, row0 (On.blk.1 on').2.2 fun j u hu => hu, _, .refl _, k _ on'.le⟩
theorem Look_none {i : Int} {K : Int → Int → ByteArray → Option EV → SH → Prop} (k : ∀ H', SH.le H H' → K 0 0 ByteArray.empty (some (.no 1)) H') : net_Net_Look.wp F none i H K := by
  intro b3 hb3
  refine at_none fun b11 hb11 => ⟨wrs_upd rfl (Nat.le_refl _), ?_⟩
  rw [fly_set]
  have hb3' : (SH.upd H b3 (pkO z0)) b3 = some (pkO z0) := SH.upd_same _ _ _
  have hne : b3 ≠ b11 := by rintro rfl; have q := hb3'.symm.trans hb11; cases q
  have hG : (SH.upd (SH.upd H b3 (pkO z0)) b11 (flO z0)) b3 = some (pkO z0) := by rw [SH.upd_ne _ _ hne]; exact hb3'
  have hb11' : (SH.upd (SH.upd H b3 (pkO z0)) b11 (flO z0)) b11 = some (flO z0) := SH.upd_same _ _ _
  have hle : SH.le H (SH.upd (SH.upd H b3 (pkO z0)) b11 (flO z0)) := (le_upd hb3).trans (le_upd hb11)
  have hGG : SH.upd (SH.upd H b3 ⟨[.int .i64 0, .int .i64 0, .string ByteArray.empty], 34, false, 3⟩) b11 ⟨[.int .i64 0, .int .i64 0, .string ByteArray.empty, .bool false], 75, false, 4⟩ = SH.upd (SH.upd H b3 (pkO z0)) b11 (flO z0) := rfl
  rw [hGG]
  generalize SH.upd (SH.upd H b3 (pkO z0)) b11 (flO z0) = G at *
  have on : On (Blk b3 (pkO z0)) H G := On.blk.2 ⟨hle, hb3, hG⟩
  have on' : On (Blk b3 (pkO z0)) H _ := On.setl (k := 0) (vs := [.int .i64 0, .int .i64 0, .string ByteArray.empty]) on
  exact ⟨0, 0, ByteArray.empty, row0 hb11' (pk3 (x := z0)), on.wrs rfl (Nat.le_refl _), 0, 0, ByteArray.empty, row0 (On.blk.1 on').2.2 fun j u hu => hu, _, .refl _, k _ on'.le⟩
theorem Send_none {f t : Int} {d : ByteArray} {K : Option EV → SH → Prop} (k : K (some (.no 1)) H) : net_Net_Send.wp F none f t d H K := p_none ⟨H, .refl _, k⟩
theorem Drop_none {i : Int} {K : Option EV → SH → Prop} (k : ∀ H', SH.le H H' → K (some (.no 1)) H') : net_Net_Drop.wp F none i H K := by
  refine off_none fun H' h' b9 hb9 => ⟨wrs_upd rfl (Nat.le_refl _), ?_⟩
  rw [fly_set]
  exact ⟨H', le_upd hb9, k H' h'⟩
theorem Twice_none {i : Int} {K : Option EV → SH → Prop} (k : K (some (.no 1)) H) : net_Net_Twice.wp F none i H K := by
  refine at_none fun b9 hb9 => ⟨wrs_upd rfl (Nat.le_refl _), o_some ?_⟩
  rw [fly_set]
  exact ⟨H, le_upd hb9, k⟩
theorem Turn_none {i to : Int} {K : Option EV → SH → Prop} (k : ∀ H', SH.le H H' → K (some (.no 1)) H') : net_Net_Turn.wp F none i to H K := by
  refine off_none fun H' h' b9 hb9 => ⟨wrs_upd rfl (Nat.le_refl _), o_some ?_⟩
  rw [fly_set]
  exact ⟨H', le_upd hb9, k H' h'⟩
theorem Spoil_none {i at_ by_ : Int} {K : Option EV → SH → Prop} (k : K (some (.no 1)) H) : net_Net_Spoil.wp F none i at_ by_ H K := by
  refine at_none fun b9 hb9 => ⟨wrs_upd rfl (Nat.le_refl _), o_some ?_⟩
  rw [fly_set]
  exact ⟨H, le_upd hb9, k⟩
theorem Len_none {K : Int → SH → Prop} (k : K 0 H) : net_Net_Len.wp F none H K := p_none ⟨H, .refl _, k⟩
theorem All_none {K : Sl → SH → Prop} (k : ∀ l, l.len = 0 → K l H) : net_Net_All.wp F none H K := p_none ⟨H, .refl _, k _ rfl⟩
theorem Clear_none {a : Int} {K : Int → SH → Prop} (k : ∀ H', SH.le H H' → K 0 H') : net_Net_Clear.wp F none a H K := by
  intro b3 hb3
  exact Len_none (p_none (Len_none ⟨_, .refl _, k _ (le_upd hb3)⟩))
/-! ### a party's packets -/
def ofP (a : Int) (x : Fl) : Bool := x.f == a || x.t == a
def paO (a : Int) : AO := ⟨[.int .i64 a], 3, false, 1⟩
theorem Clear1_spec {a : Int} {x : Fl} {b3 : Nat} (h3 : H b3 = some (paO a)) {K : Bool → SH → Prop} (k : K (ofP a x) H) : net_Net_Clear_1.wp F x.f x.t x.d x.q (some (b3, 0)) H K := by
  intro b6 hb6
  have hne : b3 ≠ b6 := by rintro rfl; rw [h3] at hb6; cases hb6
  have h3' : (SH.upd H b6 ⟨[.int .i64 x.f, .int .i64 x.t, .string x.d, .bool x.q], 75, false, 4⟩).has (b3, 0) (.int .i64 a) := ⟨paO a, by rw [SH.upd_ne _ _ hne]; exact h3, rfl⟩
  refine ⟨x.f, has_upd rfl, p_some ⟨a, h3', ?_⟩⟩
  by_cases c : x.f = a
  · have e : ofP a x = true := by unfold ofP; rw [c]; simp
    rw [e] at k
    exact br_t c ⟨H, le_upd hb6, k⟩
  · have e : ofP a x = (x.t == a) := by unfold ofP; rw [beq_eq_false_iff_ne.2 c, Bool.false_or]
    rw [e] at k
    exact br_f c ⟨x.t, has_upd rfl, a, h3', H, le_upd hb6, k⟩
theorem Index_spec {a : Int} {b3 : Nat} {l : Sl} (hF : fl.length < F) (hn : fl.length ≤ 1000000) (hl : l.len = fl.length) (hr : H.row l.a (flc fl)) (h3 : H b3 = some (paO a)) {K : Int → SH → Prop} (k1 : (∀ x ∈ fl, ofP a x = false) → K (-1) H)
    (k2 : ∀ n (hn : n < fl.length), (∀ x ∈ fl.take n, ofP a x = false) → ofP a fl[n] = true → K (n : Int) H) : slices_IndexFunc_net_flying_net_flying__net_Net_Clear_1.wp F l (some (b3, 0)) H K := by
  unfold slices_IndexFunc_net_flying_net_flying__net_Net_Clear_1.wp
  rw [hl]
  have loop : ∀ (m j f : Nat), fl.length - j = m → j ≤ fl.length → m < f → (∀ x ∈ fl.take j, ofP a x = false) → slices_IndexFunc_net_flying_net_flying__net_Net_Clear_1.l1 F K f l (some (b3, 0)) (fl.length : Int) (j : Int) H := by
    intro m
    induction m with
    | zero =>
      intro j f hj hi hf ha
      obtain ⟨f, rfl⟩ : ∃ i, f = i + 1 := ⟨f - 1, by omega⟩
      rw [List.take_of_length_le (by omega)] at ha
      exact br_f (by omega) ⟨H, .refl _, k1 ha⟩
    | succ m ih =>
      intro j f hj hi hf ha
      obtain ⟨f, rfl⟩ : ∃ i, f = i + 1 := ⟨f - 1, by omega⟩
      have hlt : j < fl.length := by omega
      obtain ⟨p, hp, hrow⟩ := row_fly hr hlt
      refine br_t (by omega) ⟨p, hp, by omega, by omega, fl[j].f, fl[j].t, fl[j].d, fl[j].q, hrow, Clear1_spec h3 ?_⟩
      cases hx : ofP a fl[j] with
      | true => exact br_t rfl ⟨H, .refl _, k2 j hlt ha hx⟩
      | false =>
        refine br_f (by simp) ?_
        rw [w64_id (by omega), show (j : Int) + 1 = ((j + 1 : Nat) : Int) by omega]
        refine ih (j + 1) f (by omega) (by omega) (by omega) fun x hx' => ?_
        rw [List.take_succ_eq_append_getElem hlt] at hx'
        rcases List.mem_append.1 hx' with h | h
        · exact ha x h
        · rw [List.mem_singleton.1 h]; exact hx
  exact loop fl.length 0 F (by omega) (by omega) hF (by simp)
theorem Delete_spec {a : Int} {b3 : Nat} {l : Sl} {H1 : SH} (hF : fl.length < F) (hn : fl.length ≤ 1000000) (h3 : H1 b3 = some (paO a)) (h : On (SlG FLY 4 l (flc fl)) H1 H) {K : Sl → SH → Prop} (k : ∀ l' H', On (SlG FLY 4 l' (flc (fl.filter fun x => !ofP a x))) H1 H' → K l' H') : slices_DeleteFunc_net_flying_net_flying__net_Net_Clear_1.wp F l (some (b3, 0)) H K := by
  have hl := h.lenG
  have hc := h.capG
  rw [flc_len] at hl
  have hL : l.len = fl.length := by omega
  refine Index_spec hF hn hL h.rowG (h.le _ _ h3) (fun ha => br_t rfl ⟨H, .refl _, k l H ?_⟩) (fun n hnl ha hx => br_f (by omega) ?_)
  · have e : fl.filter (fun x => !ofP a x) = fl := List.filter_eq_self.2 fun x hx => by rw [ha x hx]; rfl
    rw [e]; exact h
  have hp : ∃ p, l.a = some p := by
    rcases h.atG with ⟨_, h0, _⟩ | ⟨b', pre, post, sz, k1, _⟩
    · omega
    · exact ⟨_, k1⟩
  obtain ⟨p, hp⟩ := hp
  rw [w64_id (by omega), show (n : Int) + 1 = ((n + 1 : Nat) : Int) by omega]
  have loop : ∀ (m j i f : Nat) (cur : List Fl) (G : SH), fl.length - j = m → j ≤ fl.length → m < f → i < j → cur.length = fl.length → cur.take i = (fl.take j).filter (fun x => !ofP a x) → cur.drop j = fl.drop j → On (SlG FLY 4 l (flc cur)) H1 G → slices_DeleteFunc_net_flying_net_flying__net_Net_Clear_1.l1 F K f l (some (b3, 0)) (i : Int) (j : Int) G := by
    intro m
    induction m with
    | zero =>
      intro j i f cur G hj hjl hf hij hcl ht hd g
      obtain ⟨f, rfl⟩ : ∃ i, f = i + 1 := ⟨f - 1, by omega⟩
      refine br_f (by omega) ?_
      simp only [Int.toNat_natCast]
      have ez : (Sl.sub 4 l i l.len l.cap).len = l.len - i := rfl
      rw [ez]
      have zl : (Builtin.zeroCells (Value.cells (.agg #[.int .i64 0, .int .i64 0, .string ByteArray.empty, .bool false] : Value)) (l.len - i)).toList.length = (l.len - i) * 4 := zeros_len _ _ rfl
      generalize (Builtin.zeroCells (Value.cells (.agg #[.int .i64 0, .int .i64 0, .string ByteArray.empty, .bool false] : Value)) (l.len - i)).toList = zs at *
      have ea : (Sl.sub 4 l i l.len l.cap).a = some (p.1, p.2 + i * 4) := Sl.subA (by omega) hp
      obtain ⟨g1, g2⟩ := g.putG (k := i * 4) (vs := zs) (by rw [flc_len, zl]; omega) hp
      rw [ea]
      refine ⟨by omega, by omega, by omega, fun q hq => ?_, by decide, by omega, by omega, _, .refl _, ?_⟩
      · cases hq; rw [← zl]; exact g1
      · have g3 := g2.subG (lo := 0) (hi := i) (Nat.zero_le _) (by omega)
        have e : (wrl (flc cur) (i * 4) zs).take (i * 4) = flc (cur.take i) := by
          unfold wrl
          rw [List.append_assoc, List.take_append_of_le_length (by rw [List.length_take, flc_len]; omega), List.take_take, Nat.min_self, flc_take]
        rw [e, ht, Nat.zero_mul, List.drop_zero, List.take_of_length_le (l := fl) (by omega)] at g3
        exact k _ _ g3
    | succ m ih =>
      intro j i f cur G hj hjl hf hij hcl ht hd g
      obtain ⟨f, rfl⟩ : ∃ i, f = i + 1 := ⟨f - 1, by omega⟩
      have hlt : j < fl.length := by omega
      have hltc : j < cur.length := by omega
      have ecj : cur[j] = fl[j] := by
        have e1 : (cur.drop j)[0]? = (fl.drop j)[0]? := by rw [hd]
        rw [List.getElem?_drop, List.getElem?_drop, Nat.add_zero, List.getElem?_eq_getElem hltc, List.getElem?_eq_getElem hlt] at e1
        exact Option.some.inj e1
      have hd1 : cur.drop (j + 1) = fl.drop (j + 1) := by
        rw [← List.drop_drop, ← List.drop_drop, hd]
      obtain ⟨p', hp', hrow⟩ := row_fly g.rowG hltc
      refine br_t (by omega) ⟨p', hp', by omega, by omega, cur[j].f, cur[j].t, cur[j].d, cur[j].q, hrow, fun b20 hb20 => ⟨wrs_upd rfl (Nat.le_refl _), ?_⟩⟩
      rw [fly_set]
      rw [ecj]
      obtain ⟨H2, g', gt, gle⟩ := On.temp .slg g hb20 (flO fl[j])
      have hb20' : (SH.upd G b20 (flO fl[j])) b20 = some (flO fl[j]) := SH.upd_same _ _ _
      have hG : SH.upd G b20 ⟨[.int .i64 fl[j].f, .int .i64 fl[j].t, .string fl[j].d, .bool fl[j].q], 75, false, 4⟩ = SH.upd G b20 (flO fl[j]) := rfl
      rw [hG]
      generalize SH.upd G b20 (flO fl[j]) = G2 at *
      refine ⟨fl[j].f, fl[j].t, fl[j].d, fl[j].q, row0 hb20' (fun j u hu => hu), Clear1_spec (g'.le _ _ (gle _ _ h3)) ?_⟩
      unfold slices_DeleteFunc_net_flying_net_flying__net_Net_Clear_1.j2 slices_DeleteFunc_net_flying_net_flying__net_Net_Clear_1.j1
      rw [w64_id (x := (j : Int) + 1) (by omega), show (j : Int) + 1 = ((j + 1 : Nat) : Int) by omega]
      have et : (fl.take (j + 1)).filter (fun x => !ofP a x) = (fl.take j).filter (fun x => !ofP a x) ++ (if ofP a fl[j] then [] else [fl[j]]) := by
        rw [List.take_succ_eq_append_getElem hlt, List.filter_append]
        congr 1
        cases hq : ofP a fl[j] <;> simp [hq]
      cases hx : ofP a fl[j] with
      | true =>
        refine br_t rfl (ih (j + 1) i f cur G2 (by omega) (by omega) (by omega) (by omega) hcl ?_ hd1 (g'.below gle))
        rw [et, hx]; simpa using ht
      | false =>
        have hic : i < cur.length := by omega
        obtain ⟨g1, g2⟩ := g'.putG (k := i * 4) (vs := fl[j].c) (by rw [flc_len]; show _ + 4 ≤ _; omega) hp
        rw [flc_set hic] at g2
        refine br_f (by simp) ⟨fl[j].f, fl[j].t, fl[j].d, fl[j].q, row0 hb20' (fun j u hu => hu), p, hp, by omega, by omega, g1, ?_⟩
        rw [w64_id (x := (i : Int) + 1) (by omega), show (i : Int) + 1 = ((i + 1 : Nat) : Int) by omega]
        refine ih (j + 1) (i + 1) f (cur.set i fl[j]) _ (by omega) (by omega) (by omega) (by omega) (by rw [List.length_set]; exact hcl) ?_ ?_ (g2.below gle)
        · rw [et, hx, List.take_succ_eq_append_getElem (by rw [List.length_set]; exact hic), List.getElem_set_self, List.take_set_of_le (Nat.le_refl i), ht]
          simp
        · rw [List.drop_set_of_lt (by omega)]; exact hd1
  refine loop (fl.length - (n + 1)) (n + 1) n F fl H rfl (by omega) (by omega) (by omega) rfl ?_ rfl h
  rw [List.take_succ_eq_append_getElem hnl, List.filter_append, List.filter_eq_self.2 fun x hx' => by rw [ha x hx']; rfl]
  simp [hx]
theorem Clear_spec {a : Int} (hF : fl.length < F) (hn : fl.length ≤ 1000000) (h : On (NetI bn fl) H0 H) {K : Int → SH → Prop} (k : ∀ H', On (NetI bn (fl.filter fun x => !ofP a x)) H0 H' → K ((fl.length : Int) - (fl.filter fun x => !ofP a x).length) H') : net_Net_Clear.wp F (some (bn, 0)) a H K := by
  intro b3 hb3
  obtain ⟨H2, g, hb, gle⟩ := On.temp .net h hb3 (paO a)
  refine Len19_spec g (p_some ?_)
  show ∃ l11, SH.has (H.upd b3 (paO a)) (bn, 0) (sv l11) ∧ _
  obtain ⟨S, c⟩ := net_open g
  have hbn : On (Blk bn ⟨[sv S], NETT, false, 1⟩) H2 (H.upd b3 (paO a)) := c.on
  obtain ⟨H3, s1, c2⟩ := Chain.pull [blkL bn ⟨[sv S], NETT, false, 1⟩] c
  have s1 : On (SlG FLY 4 S (flc fl)) H3 (H.upd b3 (paO a)) := s1
  have c2 : Chain [blkL bn ⟨[sv S], NETT, false, 1⟩] H2 H3 := c2
  refine ⟨S, hbn.has rfl, Delete_spec hF hn (c2.le _ _ hb) s1 fun l' H' s2 => ?_⟩
  obtain ⟨H4, b4, c4⟩ := Chain.pull [slG FLY 4 l' (flc (fl.filter fun x => !ofP a x))] (⟨H3, s2, c2⟩ : Chain [slG FLY 4 l' (flc (fl.filter fun x => !ofP a x)), blkL bn ⟨[sv S], NETT, false, 1⟩] H2 H')
  have b4 : On (Blk bn ⟨[sv S], NETT, false, 1⟩) H4 H' := b4
  have b5 : On (Blk bn ⟨[sv l'], NETT, false, 1⟩) H4 (SH.setl H' (bn, 0) [sv l']) := On.setl (k := 0) (vs := [sv l']) b4
  have n5 : On (NetI bn (fl.filter fun x => !ofP a x)) H0 (SH.setl H' (bn, 0) [sv l']) := (net_close ⟨H4, b5, c4⟩).below gle
  have hfl : (fl.filter fun x => !ofP a x).length ≤ fl.length := List.length_filter_le _ _
  refine ⟨b4.wrs rfl (Nat.le_refl _), Len19_spec n5 ⟨_, .refl _, ?_⟩⟩
  rw [w64_id (by omega)]
  exact k _ n5
end
end Go.Proofs.YtkfbmoekghbgbaaDoor.K
