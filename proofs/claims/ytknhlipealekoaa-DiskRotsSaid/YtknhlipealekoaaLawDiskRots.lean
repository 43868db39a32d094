/- The law DiskRots: what it comes to. -/
import Derived.Test.YtknhlipealekoaaSpecDisk4
import Derived.Test.YtknhlipealekoaaGladinglaw14
import Derived.Test.YtknhlipealekoaaArgs2
set_option linter.unusedVariables false
set_option linter.unusedSimpArgs false
namespace Go.Proofs.Ytknhlipealekoaa.K
open Go

/-! ### bytes turned -/
theorem xor_lt {a b : Nat} (ha : a < 256) (hb : b < 256) : a ^^^ b < 256 := Nat.xor_lt_two_pow (n := 8) ha hb
theorem turnB_comm (s : ByteArray) (a b : Nat) {x y : Int} (hx : 0 ≤ x ∧ x ≤ 255) (hy : 0 ≤ y ∧ y ≤ 255) : turnB (turnB s a x) b y = turnB (turnB s b y) a x := by
  by_cases ha : a < (bs s).length
  · by_cases hb : b < (bs s).length
    · have e1 := turnB_of (s := s) (y := x) ha
      have e2 := turnB_of (s := s) (y := y) hb
      have l1 : b < (bs (turnB s a x)).length := by rw [bs_len, turnB_size, ← bs_len]; exact hb
      have l2 : a < (bs (turnB s b y)).length := by rw [bs_len, turnB_size, ← bs_len]; exact ha
      rw [turnB_of l1, turnB_of l2]
      congr 1
      have h1 : bs (turnB s a x) = (bs s).set a (UInt8.ofNat ((bs s)[a].toNat ^^^ x.toNat)) := by rw [e1, bs_ofL]
      have h2 : bs (turnB s b y) = (bs s).set b (UInt8.ofNat ((bs s)[b].toNat ^^^ y.toNat)) := by rw [e2, bs_ofL]
      simp only [h1, h2]
      by_cases hab : a = b
      · subst hab
        have q1 := xor_lt (UInt8.toNat_lt (bs s)[a]) (show x.toNat < 256 by omega)
        have q2 := xor_lt (UInt8.toNat_lt (bs s)[a]) (show y.toNat < 256 by omega)
        simp only [List.getElem_set_self, List.set_set]
        rw [UInt8.toNat_ofNat_of_lt' (by show _ < 256; exact q1), UInt8.toNat_ofNat_of_lt' (by show _ < 256; exact q2), Nat.xor_assoc, Nat.xor_assoc, Nat.xor_comm x.toNat]
      · rw [List.set_comm _ _ hab]
        simp only [List.getElem_set_ne hab, List.getElem_set_ne (Ne.symm hab)]
    · rw [turnB_out (s := s) (y := y) hb, turnB_out]
      rw [bs_len, turnB_size, ← bs_len]; exact hb
  · rw [turnB_out (s := s) (y := x) ha, turnB_out (s := turnB s b y)]
    rw [bs_len, turnB_size, ← bs_len]; exact ha
theorem turnB_twice (s : ByteArray) (a : Nat) {x : Int} (hx : 0 ≤ x ∧ x ≤ 255) : turnB (turnB s a x) a x = s := by
  by_cases ha : a < (bs s).length
  · have l1 : a < (bs (turnB s a x)).length := by rw [bs_len, turnB_size, ← bs_len]; exact ha
    rw [turnB_of l1]
    apply bs_inj
    have h1 : bs (turnB s a x) = (bs s).set a (UInt8.ofNat ((bs s)[a].toNat ^^^ x.toNat)) := by rw [turnB_of ha, bs_ofL]
    simp only [h1, bs_ofL, List.getElem_set_self, List.set_set]
    rw [UInt8.toNat_ofNat_of_lt' (by show _ < 256; exact xor_lt (UInt8.toNat_lt _) (by omega)), Nat.xor_assoc, Nat.xor_self, Nat.xor_zero]
    simp
  · rw [turnB_out (s := s) ha, turnB_out ha]
def trnL (l : List (Int × Int)) (s : ByteArray) : ByteArray := l.foldl (fun s x => turnB s x.1.toNat x.2) s
theorem trnL_size (l : List (Int × Int)) : ∀ s, (trnL l s).size = s.size := by
  induction l with
  | nil => intro s; rfl
  | cons x l ih => intro s; show (trnL l _).size = _; rw [ih, turnB_size]
theorem trnL_turn (l : List (Int × Int)) (hl : ∀ x ∈ l, 0 ≤ x.2 ∧ x.2 ≤ 255) : ∀ (s : ByteArray) (a : Nat) (y : Int), (0 ≤ y ∧ y ≤ 255) → trnL l (turnB s a y) = turnB (trnL l s) a y := by
  induction l with
  | nil => intro s a y _; rfl
  | cons x l ih =>
    intro s a y hy
    show trnL l (turnB (turnB s a y) _ _) = turnB (trnL l (turnB s _ _)) a y
    rw [turnB_comm s a _ hy (hl x (by simp)), ih (fun z hz => hl z (by simp [hz])) _ a y hy]
theorem trnL_twice (l : List (Int × Int)) (hl : ∀ x ∈ l, 0 ≤ x.2 ∧ x.2 ≤ 255) : ∀ s, trnL l (trnL l s) = s := by
  induction l with
  | nil => intro s; rfl
  | cons x l ih =>
    intro s
    have hl' : ∀ z ∈ l, 0 ≤ z.2 ∧ z.2 ≤ 255 := fun z hz => hl z (by simp [hz])
    show trnL l (turnB (trnL l (turnB s _ _)) _ _) = s
    rw [trnL_turn l hl' s _ _ (hl x (by simp)), turnB_twice _ _ (hl x (by simp)), ih hl']

/-! ### the document's example -/
def mkB (l : List UInt8) : ByteArray := ofL l
section
variable {F : Nat} {H : SH}
theorem dnew_fit (n : Nat) (h : n ≤ 4096) : (DM.new n).fit 4096 where
  log := Nat.zero_le _
  tot := Nat.zero_le _
  len := Nat.zero_le _
  nowS := fun s hs => by rw [List.eq_of_mem_replicate hs]; exact Nat.zero_le _
  lastS := fun s hs => by rw [List.eq_of_mem_replicate hs]; exact Nat.zero_le _
  waitS := fun w hw => by cases hw
  slots := by show (List.replicate n _).length ≤ _; rw [List.length_replicate]; exact h
theorem emp_app (s : ByteArray) : ByteArray.empty ++ s = s := bs_inj (by rw [bs_append]; rfl)
theorem append_free {m : DM} {s : ByteArray} (hd : m.down = false) (hl : m.left = -1) (hs : s.size ≠ 0) : m.append s = { m with now := ⟨m.now.log ++ s, m.now.slots⟩, waits := m.waits ++ [(-1, s)] } := by
  unfold DM.append DM.does DM.burn DM.lies Ct.put
  simp [hd, hl, hs]
theorem appendE_free {m : DM} (hd : m.down = false) (hl : m.left = -1) : m.appendE = 0 := by
  unfold DM.appendE DM.burnE; simp [hd, hl]
theorem sync_free {m : DM} (hd : m.down = false) (hl : m.left = -1) : m.sync = { m with lasts := m.now, waits := [] } := by
  unfold DM.sync DM.burn DM.settle; simp [hd, hl]
theorem crash_none (m : DM) (lack : Int) : m.crash [] lack = ⟨-1, false, m.lasts, m.lasts, []⟩ := by
  unfold DM.crash; simp [crashC]
theorem awake14_spec (hF : 100 ≤ F) {K : Bool → SH → Prop} (k : ∀ H', SH.le H H' → K true H') : ladinglaw14_awake.wp F H K := by
  refine New_spec (n := 2) (by decide) fun b H1 h1 hb => p_some ?_
  have s1 : (DM.new 2).append (mkB [97, 98]) = ⟨-1, false, ⟨mkB [97, 98], List.replicate 2 ByteArray.empty⟩, ⟨ByteArray.empty, List.replicate 2 ByteArray.empty⟩, [(-1, mkB [97, 98])]⟩ := by
    rw [append_free rfl rfl (by decide)]; unfold DM.new; simp [emp_app]
  refine Append_spec (m := DM.new 2) (s := mkB [97, 98]) (N := 4096) (by omega) (dnew_fit 2 (by omega)) ⟨by decide, by decide⟩ (by decide) h1 fun H2 h2 => ?_
  rw [appendE_free rfl rfl]
  rw [s1] at h2
  refine o_none (Sync_spec ⟨by decide, by decide⟩ (by decide) h2 fun H3 h3 => ?_)
  rw [appendE_free rfl rfl]
  rw [sync_free rfl rfl] at h3
  have f3 : DM.fit 4096 ⟨-1, false, ⟨mkB [97, 98], List.replicate 2 ByteArray.empty⟩, ⟨mkB [97, 98], List.replicate 2 ByteArray.empty⟩, []⟩ :=
    ⟨by decide, by decide, by decide, fun s hs => by rw [List.eq_of_mem_replicate hs]; exact Nat.zero_le _, fun s hs => by rw [List.eq_of_mem_replicate hs]; exact Nat.zero_le _, (fun w hw => by cases hw), by decide⟩
  refine o_none (Append_spec (s := mkB [99, 100]) (N := 4096) (by omega) f3 ⟨by decide, by decide⟩ (by decide) h3 fun H4 h4 => ?_)
  rw [appendE_free rfl rfl]
  rw [append_free rfl rfl (by decide)] at h4
  refine o_none (Crash_spec (N := 4096) (ks := []) (by omega) ⟨by decide, by decide, by decide, fun s hs => by rw [List.eq_of_mem_replicate hs]; exact Nat.zero_le _, fun s hs => by rw [List.eq_of_mem_replicate hs]; exact Nat.zero_le _, (fun w hw h => by simp at hw; subst hw; exact absurd rfl h), by decide⟩ (by decide) (fun w hw => by simp at hw; subst hw; exact .inl rfl) rfl (Nat.le_refl _) (by simp; omega) (.inl rfl) h4 fun H5 h5 => ?_)
  rw [crash_none] at h5
  refine Log_spec rfl h5 (br_t rfl (o_none (Slots_spec h5 ⟨H5, .refl _, k _ h5.le⟩)))

/-! ### the law -/
def dmS (t : ByteArray) : DM := ⟨-1, false, ⟨ByteArray.empty, [ByteArray.empty, t]⟩, ⟨ByteArray.empty, [ByteArray.empty, t]⟩, []⟩
theorem dmS_fit {t : ByteArray} (h : t.size ≤ 64) : (dmS t).fit 4096 := by
  have h2 : ∀ s ∈ [ByteArray.empty, t], s.size ≤ 64 := fun s hs => by
    rcases List.mem_cons.1 hs with rfl | hs
    · exact Nat.zero_le _
    · rw [List.mem_singleton.1 hs]; exact h
  exact ⟨Nat.zero_le _, Nat.zero_le _, Nat.zero_le _, h2, h2, (fun w hw => by cases hw), by show 2 ≤ 4096; omega⟩
theorem dmS_rot {t : ByteArray} {a : Nat} {y : Int} : (dmS t).rotB 1 a = decide (a < t.size) ∧ (dmS t).rot 1 a y = dmS (turnB t a y) := by
  have h1 : (dmS t).rotB 1 a = decide (a < t.size) := by
    unfold DM.rotB dmS
    apply decide_eq_decide.2
    simp
  refine ⟨h1, ?_⟩
  unfold DM.rot
  rw [h1]
  by_cases h : a < t.size
  · rw [if_pos (by simpa using h)]
    simp [dmS, Ct.turn, turnW, turnD]
  · rw [if_neg (by simpa using h), turnB_out (by rw [bs_len]; exact h)]
theorem lft : -1 ≤ (-1 : Int) ∧ (-1 : Int) ≤ 9223372036854775807 := by decide
theorem Rot_dmS {b a : Nat} {x y : Int} {t : ByteArray} {H0 H : SH} (hF : 10 ≤ F) (hxa : x = a) (hy : 0 ≤ y ∧ y ≤ 255) (h : On (DiskI b (dmS t)) H0 H) {K : Bool → SH → Prop} (k : ∀ H', On (DiskI b (dmS (turnB t a y))) H0 H' → K (decide (a < t.size)) H') : disk_Disk_Rot.wp F (some (b, 0)) 1 x y H K := by
  subst hxa
  refine Rot_spec hF hy rfl (by show 0 < F; omega) (Nat.zero_le _) h fun H' h' => ?_
  rw [(dmS_rot (y := y)).1]
  rw [dmS_rot.2] at h'
  exact k H' h'
def prc (xs : List (Int × Int)) : List Value := xs.flatMap fun x => [.int .u8 x.1, .int .u8 x.2]
theorem prc_get : ∀ {xs : List (Int × Int)} {i : Nat} (h : i < xs.length), (prc xs)[i * 2]? = some (.int .u8 xs[i].1) ∧ (prc xs)[i * 2 + 1]? = some (.int .u8 xs[i].2)
  | x :: xs, 0, h => by simp [prc]
  | x :: xs, i + 1, h => by
    have := prc_get (xs := xs) (i := i) (by simpa using h)
    have e : prc (x :: xs) = [.int .u8 x.1, .int .u8 x.2] ++ prc xs := rfl
    rw [e, List.getElem?_append_right (by simp; omega), List.getElem?_append_right (by simp; omega)]
    simp only [List.length_cons, List.length_nil, List.getElem_cons_succ]
    rw [show (i + 1) * 2 - 2 = i * 2 by omega, show (i + 1) * 2 + 1 - 2 = i * 2 + 1 by omega]
    exact this
theorem row_pair {l : Sl} {xs : List (Int × Int)} {i : Nat} (hr : H.row l.a (prc xs)) (h : i < xs.length) : ∃ p, l.a = some p ∧ H.row (some (p.1, p.2 + i * 2)) [.int .u8 xs[i].1, .int .u8 xs[i].2] := by
  obtain ⟨g1, g2⟩ := prc_get h
  rcases hr with h0 | ⟨p, o, ha, hb, hc⟩
  · rw [h0] at g1; simp at g1
  · refine ⟨p, ha, .inr ⟨_, o, rfl, hb, fun j u hu => ?_⟩⟩
    cases j with
    | zero => simp at hu; subst hu; exact hc _ _ g1
    | succ j => cases j with
      | zero => simp at hu; subst hu; exact hc _ _ g2
      | succ j => simp at hu
theorem rots2 {l : Sl} {xs : List (Int × Int)} {H0 : SH} {s : ByteArray} {b : Nat} (hF : 100 ≤ F) (hl : l.len = xs.length) (hr : H0.row l.a (prc xs)) (hx : ∀ x ∈ xs, (0 ≤ x.1 ∧ x.1 ≤ 255) ∧ (0 ≤ x.2 ∧ x.2 ≤ 255)) (hm : xs.length ≤ 20) {K : Bool → SH → Prop} (k : ∀ H', K true H') :
    ∀ (j i f : Nat) (t : ByteArray) (H : SH), xs.length - i = j → i ≤ xs.length → j < f → On (DiskI b (dmS t)) H0 H → trnL (xs.drop i) t = s → ladinglaw14_DiskRots.l2 F K f s (some (b, 0)) l (xs.length : Int) (i : Int) H := by
  intro j
  induction j with
  | zero =>
    intro i f t H hj hi hf h e
    obtain ⟨f, rfl⟩ : ∃ i, f = i + 1 := ⟨f - 1, by omega⟩
    rw [List.drop_eq_nil_of_le (by omega)] at e
    have e' : t = s := e
    subst e'
    exact br_f (by omega) (Get_spec rfl h (br_t rfl (o_none ⟨H, .refl _, k _⟩)))
  | succ j ih =>
    intro i f t H hj hi hf h e
    obtain ⟨f, rfl⟩ : ∃ i, f = i + 1 := ⟨f - 1, by omega⟩
    have hlt : i < xs.length := by omega
    have hxi := hx _ (List.getElem_mem hlt)
    obtain ⟨p, hp, hrow⟩ := row_pair (hr.le h.le) hlt
    rw [List.drop_eq_getElem_cons hlt] at e
    refine br_t (by omega) ⟨p, hp, by omega, by omega, xs[i].1, xs[i].2, hrow, fun b1 hb1 => ⟨wrs_upd rfl (Nat.le_refl _), ?_⟩⟩
    rw [setl_upd]
    obtain ⟨a, ha⟩ := Int.eq_ofNat_of_zero_le hxi.1.1
    obtain ⟨H2, h2, _, hle⟩ := h.temp .disk hb1 ⟨wrl [.int .u8 0, .int .u8 0] 0 [.int .u8 xs[i].1, .int .u8 xs[i].2], 31, false, 2⟩
    refine ⟨xs[i].1, has_upd rfl, xs[i].2, has_upd rfl, ?_⟩
    rw [w64_id (x := xs[i].1) (by omega)]
    refine Rot_dmS (by omega) ha hxi.2 h2 fun H3 h3 => ?_
    rw [w64_id (x := (i : Int) + 1) (by omega), show (i : Int) + 1 = ((i + 1 : Nat) : Int) by omega]
    refine ih (i + 1) f _ H3 (by omega) (by omega) (by omega) (h3.below hle) ?_
    rw [← e]
    show _ = trnL _ (turnB t (xs[i].1).toNat xs[i].2)
    rw [ha]; rfl
theorem after {l l91 : Sl} {xs : List (Int × Int)} {H0 : SH} {s t : ByteArray} {b : Nat} (hF : 100 ≤ F) (hl : l.len = xs.length) (hr : H0.row l.a (prc xs)) (hx : ∀ x ∈ xs, (0 ≤ x.1 ∧ x.1 ≤ 255) ∧ (0 ≤ x.2 ∧ x.2 ≤ 255)) (hm : xs.length ≤ 20) (hs : t.size ≤ 64) (hl91 : l91.len = t.size) (hr91 : H0.row l91.a (byteCells (bs t))) (e : trnL xs t = s)
    (h : On (DiskI b (dmS t)) H0 H) {K : Bool → SH → Prop} (k : ∀ H', K true H') : ladinglaw14_DiskRots.j3 F K s l (some (b, 0)) l91 H := by
  refine Crash_spec (N := 4096) (ks := []) (by omega) (dmS_fit hs) (by show 2 ≤ _; omega) (fun w hw => by cases hw) rfl (Nat.le_refl _) (by simp; omega) (.inl rfl) h fun H1 h1 => ?_
  rw [crash_none] at h1
  have h1' : On (DiskI b (dmS t)) H0 H1 := h1
  refine Get_spec rfl h1' ⟨bs t, by rw [bs_len]; exact hl91, hr91.le h1'.le, br_t ?_ (o_none ?_)⟩
  · show t = ofL (bs t)
    rw [ofL_bs]
  · rw [hl]
    exact rots2 hF hl hr hx hm k _ 0 F t H1 rfl (by omega) (by omega) h1' e
theorem rots1 {l : Sl} {q : Bool} {xs : List (Int × Int)} {s : ByteArray} {b b17 n18 : Nat} {H0 : SH} (hF : 100 ≤ F) (hl : l.len = xs.length) (hr : H0.row l.a (prc xs)) (hx : ∀ x ∈ xs, (0 ≤ x.1 ∧ x.1 ≤ 255) ∧ (0 ≤ x.2 ∧ x.2 ≤ 255)) (hm : xs.length ≤ 20) (hs : s.size ≤ 64) {K : Bool → SH → Prop} (k : ∀ H', K true H') :
    ∀ (j i f : Nat) (t : ByteArray) (H1 H : SH), xs.length - i = j → i ≤ xs.length → j < f → t.size = s.size → On (DiskI b (dmS t)) H1 H → On (Blk b17 ⟨byteCells (bs t), 5, false, n18⟩) H0 H1 → trnL (xs.drop i) t = trnL xs s →
      ladinglaw14_DiskRots.l1 F K f s l q (some (b, 0)) ⟨some (b17, 0), s.size, n18⟩ l (xs.length : Int) (i : Int) H := by
  intro j
  induction j with
  | zero =>
    intro i f t H1 H hj hi hf ht h hb e
    obtain ⟨f, rfl⟩ : ∃ i, f = i + 1 := ⟨f - 1, by omega⟩
    rw [List.drop_eq_nil_of_le (by omega)] at e
    have e' : t = trnL xs s := e
    have hx2 : ∀ x ∈ xs, 0 ≤ x.2 ∧ x.2 ≤ 255 := fun x h => (hx x h).2
    have ee : trnL xs t = s := by rw [e', trnL_twice xs hx2]
    have hrow : H1.row (⟨some (b17, 0), s.size, n18⟩ : Sl).a (byteCells (bs t)) := rowN (On.blk.1 hb).2.2 fun j u hu => by simpa using hu
    refine br_f (by omega) ?_
    cases q with
    | true =>
      refine br_t rfl (Sync_spec lft (by show 2 ≤ _; omega) h fun H2 h2 => ?_)
      rw [appendE_free rfl rfl]
      rw [sync_free rfl rfl] at h2
      exact o_none (after hF hl (hr.le hb.le) hx hm (by omega) ht.symm hrow ee h2 k)
    | false => exact br_f (by simp) (after hF hl (hr.le hb.le) hx hm (by omega) ht.symm hrow ee h k)
  | succ j ih =>
    intro i f t H1 H hj hi hf ht h hb e
    obtain ⟨f, rfl⟩ : ∃ i, f = i + 1 := ⟨f - 1, by omega⟩
    have hlt : i < xs.length := by omega
    have hxi := hx _ (List.getElem_mem hlt)
    obtain ⟨p, hp, hrow⟩ := row_pair (hr.le (hb.le.trans h.le)) hlt
    rw [List.drop_eq_getElem_cons hlt] at e
    refine br_t (by omega) ⟨p, hp, by omega, by omega, xs[i].1, xs[i].2, hrow, fun b1 hb1 => ⟨wrs_upd rfl (Nat.le_refl _), ?_⟩⟩
    rw [setl_upd]
    obtain ⟨a, ha⟩ := Int.eq_ofNat_of_zero_le hxi.1.1
    refine ⟨xs[i].1, has_upd rfl, xs[i].1, has_upd rfl, xs[i].2, has_upd rfl, ?_⟩
    obtain ⟨H2, h2, h2'⟩ := On.swap .blk .disk (On.new (o := ⟨wrl [.int .u8 0, .int .u8 0] 0 [.int .u8 xs[i].1, .int .u8 xs[i].2], 31, false, 2⟩) hb1) h
    obtain ⟨H3, h3, h3'⟩ := On.swap .blk .blk h2' hb
    rw [w64_id (x := xs[i].1) (by omega)]
    have hst : trnL (xs.drop (i + 1)) (turnB t a xs[i].2) = trnL xs s := by
      rw [← e]
      show _ = trnL _ (turnB t (xs[i].1).toNat xs[i].2)
      rw [ha]; rfl
    refine Rot_dmS (by omega) ha hxi.2 h2 fun H4 h4 => ?_
    have hx37 : H4.has (b1, 0) (.int .u8 xs[i].1) := ⟨_, h4.le _ _ (On.blk.1 h2').2.2, rfl⟩
    have hx38 : H4.has (b1, 1) (.int .u8 xs[i].2) := ⟨_, h4.le _ _ (On.blk.1 h2').2.2, rfl⟩
    have hgo : ∀ H5, On (DiskI b (dmS (turnB t a xs[i].2))) H2 H4 → (∃ H6, On (DiskI b (dmS (turnB t a xs[i].2))) H6 H5 ∧ On (Blk b17 ⟨byteCells (bs (turnB t a xs[i].2)), 5, false, n18⟩) H0 H6) →
        ladinglaw14_DiskRots.j2 F K (ladinglaw14_DiskRots.l1 F K f) s l q (some (b, 0)) ⟨some (b17, 0), s.size, n18⟩ l (xs.length : Int) (i : Int) H5 := by
      rintro H5 _ ⟨H6, g1, g2⟩
      show ladinglaw14_DiskRots.l1 F K f s l q (some (b, 0)) ⟨some (b17, 0), s.size, n18⟩ l (xs.length : Int) (w64 ((i : Int) + 1)) H5
      rw [w64_id (by omega), show (i : Int) + 1 = ((i + 1 : Nat) : Int) by omega]
      exact ih (i + 1) f _ H6 H5 (by omega) (by omega) (by omega) (by rw [turnB_size]; exact ht) g1 g2 hst
    have hdec : (a < t.size) ↔ (a : Int) < (s.size : Int) := by rw [ht]; omega
    have hq : decide (a < t.size) = decide (xs[i].1 < (s.size : Int)) := decide_eq_decide.2 (by rw [ha]; exact hdec)
    refine br_f (fun c => c hq) ⟨fun c => ?_, fun c => ?_⟩
    · have hlt2 : a < (bs t).length := by rw [bs_len]; rw [ha] at c; simp only [] at c; omega
      obtain ⟨H7, g1, g2⟩ := On.swap .disk .blk h4 h3
      refine ⟨xs[i].1, hx37, (b17, 0), rfl, by omega, by rw [ha] at c ⊢; exact c, ((bs t)[a].toNat : Int), ?_, xs[i].2, hx38, (b17, 0), rfl, by omega, by rw [ha] at c ⊢; exact c, ?_, ?_⟩
      · refine g1.has ?_
        rw [ha]
        show (byteCells (bs t))[0 + (a : Int).toNat * 1]? = _
        rw [Int.toNat_natCast, Nat.mul_one, Nat.zero_add]
        unfold byteCells; rw [List.getElem?_map, List.getElem?_eq_getElem hlt2]; rfl
      · refine g1.wrs rfl ?_
        rw [ha]
        show 0 + (a : Int).toNat * 1 + 1 ≤ (byteCells (bs t)).length
        rw [Int.toNat_natCast, byteCells, List.length_map]; omega
      · have g3 := On.setl (k := 0 + (xs[i].1).toNat * 1) (vs := [.int .u8 (ibits .xor .u8 ((bs t)[a].toNat : Int) xs[i].2)]) g1
        refine hgo _ h4 ?_
        obtain ⟨H8, g4, g5⟩ := On.swap .blk .disk g3 g2
        refine ⟨H8, g4, ?_⟩
        have hlt3 := (bs t)[a].toNat_lt
        have e1 : ibits .xor .u8 ((bs t)[a].toNat : Int) xs[i].2 = ((UInt8.ofNat ((bs t)[a].toNat ^^^ (xs[i].2).toNat)).toNat : Int) := by
          rw [ibits_xor8 (by omega) hxi.2.1 (by omega) hxi.2.2, UInt8.toNat_ofNat_of_lt' (by show _ < 256; exact xor_lt (UInt8.toNat_lt _) (by omega))]; simp
        have e2 : wrl (byteCells (bs t)) (0 + (xs[i].1).toNat * 1) [.int .u8 (ibits .xor .u8 ((bs t)[a].toNat : Int) xs[i].2)] = byteCells (bs (turnB t a xs[i].2)) := by
          rw [e1, ha, Int.toNat_natCast, Nat.mul_one, Nat.zero_add, byteCells_set hlt2, turnB_of hlt2, bs_ofL]
        rw [← e2]
        exact g5.below h3'.le
    · refine hgo _ h4 ⟨H2, h4, ?_⟩
      rw [turnB_out (by rw [bs_len]; rw [ha] at c; simp only [] at c; omega)]
      exact h3.below h3'.le
theorem DiskRots_wp {l : Sl} {q : Bool} {xs : List (Int × Int)} {s : ByteArray} (hF : 200 ≤ F) (hl : l.len = xs.length) (hr : H.row l.a (prc xs)) (hx : ∀ x ∈ xs, (0 ≤ x.1 ∧ x.1 ≤ 255) ∧ (0 ≤ x.2 ∧ x.2 ≤ 255)) : ladinglaw14_DiskRots.wp F s l q H (fun b _ => b = true) := by
  refine awake14_spec (by omega) fun H1 hle => br_t rfl ⟨fun _ => ⟨_, .refl _, rfl⟩, fun c1 => ⟨fun _ => ⟨_, .refl _, rfl⟩, fun c2 => ?_⟩⟩
  have hs : s.size ≤ 64 := by omega
  refine New_spec (n := 2) (by decide) fun b H2 h2 hb2 => ?_
  refine Put_spec (N := 4096) (by omega) (dnew_fit 2 (by omega)) ⟨by decide, by decide⟩ h2 fun H3 h3 => ?_
  have hE : (DM.new 2).putE 1 s = 0 := by unfold DM.putE DM.slotE DM.burnE DM.new; simp; omega
  have hP : (DM.new 2).put 1 s = ⟨-1, false, ⟨ByteArray.empty, [ByteArray.empty, s]⟩, ⟨ByteArray.empty, [ByteArray.empty, ByteArray.empty]⟩, [(1, s)]⟩ := by
    unfold DM.put DM.slotE DM.does DM.burn DM.lies Ct.put DM.new
    simp [List.replicate]
    omega
  rw [hE]
  rw [hP] at h3
  refine o_none (Sync_spec lft (by show 2 ≤ _; omega) h3 fun H4 h4 => ?_)
  rw [appendE_free rfl rfl]
  rw [sync_free rfl rfl] at h4
  refine o_none fun b17 n18 hb17 hn18 => ?_
  have hn := On.new (o := ⟨byteCells (bs s), 5, false, n18⟩) hb17
  obtain ⟨H5, g1, g2⟩ := On.swap .blk .disk hn h4
  rw [hl]
  exact rots1 (by omega) hl (hr.le hle) hx (by omega) hs (fun _ => rfl) _ 0 F s H5 _ rfl (by omega) (by omega) rfl g1 g2 rfl
end
open Go.RowKit Go.ChangeShapes Go.WideShapes Go.ChangeAt in
theorem DiskRots_walk {X : Prop} {H : Type} {enc : TypeId × Value → H} (W : World) (args : Array Value) (ds : List (DataW H)) (p : List MemPlace) (base : Nat)
    (hval : ∀ (j : Nat) t v, Try.f3.params[j]? = some t → args[j]? = some v → Value.okWide Try.prog W .any base t v) (hA : DataW.TrodAll enc Try.prog W 0 (fun _ => true) true Try.f3.params.toList args.toList ds p) (hfz : X) :
    (∃ d d2 d3, ds = [d, d2, d3]) ∧ Calls Try.prog 3 args W fun e w' => e = .returned (.bool true) ∧ RowKit.Below W.heap.size W w' := by
  rw [Try.params3] at hA hval
  obtain ⟨v0, vs0, d0, ds0, p0, q0, hargs, rfl, rfl, h0, r0⟩ := trodAll_cons hA
  obtain ⟨v1, vs1, d1, ds1, p1, q1, rfl, rfl, rfl, h1, r1⟩ := trodAll_cons r0
  obtain ⟨v2, vs2, d2, ds2, p2, q2, rfl, rfl, rfl, h2, r2⟩ := trodAll_cons r1
  obtain ⟨rfl, rfl, rfl⟩ := trodAll_nil r2
  obtain rfl : args = #[v0, v1, v2] := by cases args; simp_all
  obtain ⟨s, rfl, rfl, rfl, hs⟩ := Go.ChangeMaps.open_string Try.underlying9 (hval 0 9 v0 rfl rfl) h0
  obtain ⟨l, xs, rfl, hl, _, hr, hx⟩ := arg_pairs Try.underlying22 Try.underlying31 Try.underlying5 (by kernel_rfl) (by kernel_rfl) (hval 1 22 v1 rfl rfl) h1
  obtain ⟨q, rfl⟩ := arg_bool Try.underlying4 (hval 2 4 v2 rfl rfl)
  refine ⟨⟨_, _, _, rfl⟩, ?_⟩
  have h := ladinglaw14_DiskRots.sound 500 s l q (SH.of W) _ (DiskRots_wp (by omega) hl hr fun x hx' => hx x hx') W (SH.of_sat W)
  refine h.mono ?_
  rintro e w' ⟨v, H', rfl, st, q, rfl, rfl⟩
  exact ⟨rfl, st.below fun b o hb => SH.of_ro hb⟩
end Go.Proofs.Ytknhlipealekoaa.K
