/- The law FrameRows: the frames of texts, one behind the other, are read as these. -/
import Derived.Test.YtpnbehgkbfhacaaLawFrame
import Derived.Test.YtpnbehgkbfhacaaGlaw1
set_option linter.unusedVariables false
set_option linter.unusedSimpArgs false
namespace Go.Proofs.Ytpnbehgkbfhacaa.K
open Go
theorem awake03_spec {F : Nat} (hF : 3000 ≤ F) {H : SH} {K : Bool → SH → Prop} (h : K true H) : ladinglaw03_awake.wp F H K := by
  refine Seal_spec (by omega) (by decide) (show (1 : Nat) < F by omega) ?_
  have hx : bs (⟨#[120]⟩ : ByteArray) = [120] := rfl
  rw [hx]
  have hn := nextL_seal (t := [120]) (by decide) []
  rw [List.append_nil] at hn
  refine Open_whole (n := 1) (by omega) (by rw [ofL_size, sealL_len]; decide) (by rw [ofL_size, sealL_len]; show (7 : Nat) < F; omega) (by rw [bs_ofL]; exact hn) (by rw [ofL_size, sealL_len]; rfl) ?_
  intro b hb
  refine Sum_one (by omega) (show (9 : Nat) < F by omega) (by decide) ?_
  have hsum : sumV (bs (⟨#[49, 50, 51, 52, 53, 54, 55, 56, 57]⟩ : ByteArray)) = 3808858755 := by kernel_rfl
  rw [hsum]
  refine br_t rfl (o_none (o_none ⟨H, le_upd hb, ?_⟩))
  have e : (ofL (sealL [120])).extract 6 (6 + 1) = (⟨#[120]⟩ : ByteArray) := by
    apply bs_inj
    rw [bs_extract, bs_ofL]
    have : (sealL [120]).length = 7 := sealL_len _
    rw [List.take_of_length_le (by omega)]
    unfold sealL
    have : (fixL 4 (sumV (fixL 2 [(120 : UInt8)].length ++ [120])) ++ fixL 2 [(120 : UInt8)].length).length = 6 := by simp [fixL_len]
    rw [← this, List.drop_left]; rfl
  rw [decide_eq_true e]
  exact h
theorem rowsCmp3 {F : Nat} {l g : Sl} {ss : List ByteArray} {many : Nat} (H : SH) (hl : l.len = ss.length) (hr : H.row l.a (ss.map fun s => .string s)) (hg : g.len = many) (hgr : H.row g.a (((ss.map bs).take many).map fun t => .string (ofL t))) (hm : many ≤ ss.length) (hs : ss.length ≤ 100) :
    ∀ (m i k : Nat), many - i = m → i ≤ many → m < k → ladinglaw03_FrameRows.l3 F (fun b _ => b = true) k l g many i H := by
  intro m
  induction m with
  | zero =>
    intro i k hm hi hk
    obtain ⟨k, rfl⟩ : ∃ j, k = j + 1 := ⟨k - 1, by omega⟩
    exact br_f (by omega) ⟨H, .refl H, rfl⟩
  | succ m ih =>
    intro i k hm hi hk
    obtain ⟨k, rfl⟩ : ∃ j, k = j + 1 := ⟨k - 1, by omega⟩
    have h1 : i < ss.length := by omega
    refine br_t (by omega) (row_at hgr (v := .string (ofL (bs ss[i]))) (by simp [List.getElem?_take, h1, show i < many by omega]) (by omega) fun p hp hh => ⟨_, hh, row_at hr (v := .string ss[i]) (by simp [h1]) (by omega) fun p2 hp2 hh2 => ⟨_, hh2, br_t (ofL_bs _) ?_⟩⟩)
    rw [w64_id (by omega), show (i : Int) + 1 = ((i + 1 : Nat) : Int) by omega]
    exact ih (i + 1) k (by omega) (by omega) (by omega)
theorem rowsCmp4 {F : Nat} {l g : Sl} {ss : List ByteArray} {many : Nat} (H : SH) (hl : l.len = ss.length) (hr : H.row l.a (ss.map fun s => .string s)) (hg : g.len = many) (hgr : H.row g.a (((ss.map bs).take many).map fun t => .string (ofL t))) (hm : many ≤ ss.length) (hs : ss.length ≤ 100) :
    ∀ (m i k : Nat), many - i = m → i ≤ many → m < k → ladinglaw03_FrameRows.l4 F (fun b _ => b = true) k l g many i H := by
  intro m
  induction m with
  | zero =>
    intro i k hm hi hk
    obtain ⟨k, rfl⟩ : ∃ j, k = j + 1 := ⟨k - 1, by omega⟩
    exact br_f (by omega) ⟨H, .refl H, rfl⟩
  | succ m ih =>
    intro i k hm hi hk
    obtain ⟨k, rfl⟩ : ∃ j, k = j + 1 := ⟨k - 1, by omega⟩
    have h1 : i < ss.length := by omega
    refine br_t (by omega) (row_at hgr (v := .string (ofL (bs ss[i]))) (by simp [List.getElem?_take, h1, show i < many by omega]) (by omega) fun p hp hh => ⟨_, hh, row_at hr (v := .string ss[i]) (by simp [h1]) (by omega) fun p2 hp2 hh2 => ⟨_, hh2, br_t (ofL_bs _) ?_⟩⟩)
    rw [w64_id (by omega), show (i : Int) + 1 = ((i + 1 : Nat) : Int) by omega]
    exact ih (i + 1) k (by omega) (by omega) (by omega)
theorem rowsCmp5 {F : Nat} {l g : Sl} {ss : List ByteArray} {many : Nat} (H : SH) (hl : l.len = ss.length) (hr : H.row l.a (ss.map fun s => .string s)) (hg : g.len = many) (hgr : H.row g.a (((ss.map bs).take many).map fun t => .string (ofL t))) (hm : many ≤ ss.length) (hs : ss.length ≤ 100) :
    ∀ (m i k : Nat), many - i = m → i ≤ many → m < k → ladinglaw03_FrameRows.l5 F (fun b _ => b = true) k l g many i H := by
  intro m
  induction m with
  | zero =>
    intro i k hm hi hk
    obtain ⟨k, rfl⟩ : ∃ j, k = j + 1 := ⟨k - 1, by omega⟩
    exact br_f (by omega) ⟨H, .refl H, rfl⟩
  | succ m ih =>
    intro i k hm hi hk
    obtain ⟨k, rfl⟩ : ∃ j, k = j + 1 := ⟨k - 1, by omega⟩
    have h1 : i < ss.length := by omega
    refine br_t (by omega) (row_at hgr (v := .string (ofL (bs ss[i]))) (by simp [List.getElem?_take, h1, show i < many by omega]) (by omega) fun p hp hh => ⟨_, hh, row_at hr (v := .string ss[i]) (by simp [h1]) (by omega) fun p2 hp2 hh2 => ⟨_, hh2, br_t (ofL_bs _) ?_⟩⟩)
    rw [w64_id (by omega), show (i : Int) + 1 = ((i + 1 : Nat) : Int) by omega]
    exact ih (i + 1) k (by omega) (by omega) (by omega)
theorem rowsCmp6 {F : Nat} {l g : Sl} {ss : List ByteArray} {many : Nat} (H : SH) (hl : l.len = ss.length) (hr : H.row l.a (ss.map fun s => .string s)) (hg : g.len = many) (hgr : H.row g.a (((ss.map bs).take many).map fun t => .string (ofL t))) (hm : many ≤ ss.length) (hs : ss.length ≤ 100) :
    ∀ (m i k : Nat), many - i = m → i ≤ many → m < k → ladinglaw03_FrameRows.l6 F (fun b _ => b = true) k l g many i H := by
  intro m
  induction m with
  | zero =>
    intro i k hm hi hk
    obtain ⟨k, rfl⟩ : ∃ j, k = j + 1 := ⟨k - 1, by omega⟩
    exact br_f (by omega) ⟨H, .refl H, rfl⟩
  | succ m ih =>
    intro i k hm hi hk
    obtain ⟨k, rfl⟩ : ∃ j, k = j + 1 := ⟨k - 1, by omega⟩
    have h1 : i < ss.length := by omega
    refine br_t (by omega) (row_at hgr (v := .string (ofL (bs ss[i]))) (by simp [List.getElem?_take, h1, show i < many by omega]) (by omega) fun p hp hh => ⟨_, hh, row_at hr (v := .string ss[i]) (by simp [h1]) (by omega) fun p2 hp2 hh2 => ⟨_, hh2, br_t (ofL_bs _) ?_⟩⟩)
    rw [w64_id (by omega), show (i : Int) + 1 = ((i + 1 : Nat) : Int) by omega]
    exact ih (i + 1) k (by omega) (by omega) (by omega)

/-- Where the texts' frames end. -/
def endsF (ts : List (List UInt8)) (j : Nat) : Value := .int .i64 ((flatS (ts.take (j + 1))).length : Int)
theorem rowsMany {F : Nat} (hF : 3000 ≤ F) {l e g : Sl} {ss : List ByteArray} {n many : Nat} {x41 : Int} (H : SH) (hl : l.len = ss.length) (hr : H.row l.a (ss.map fun s => .string s)) (hs : ss.length ≤ 20)
    (he : e.len = ss.length) (her : H.row e.a (cellsF ss.length (endsF (ss.map bs)))) (hg : g.len = many) (hgr : H.row g.a (((ss.map bs).take many).map fun t => .string (ofL t))) (hm : many ≤ ss.length)
    (h4 : ∀ j, j ≤ many → (flatS ((ss.map bs).take j)).length ≤ n) (h5 : many < ss.length → n < (flatS ((ss.map bs).take (many + 1))).length) (hx : x41 = (flatS ((ss.map bs).take many)).length) :
    ∀ (m i k : Nat), many - i = m → i ≤ many → m < k → ladinglaw03_FrameRows.l2 F (fun b _ => b = true) k l e n g x41 i H := by
  intro m
  induction m with
  | zero =>
    intro i k hmi hi hk
    obtain ⟨k, rfl⟩ : ∃ j, k = j + 1 := ⟨k - 1, by omega⟩
    obtain rfl : i = many := by omega
    have hw : 0 < i → w64 ((i : Int) - 1) = ((i - 1 : Nat) : Int) := fun h0 => by rw [w64_id (by omega)]; omega
    have hlast : 0 < i → x41 = (flatS ((ss.map bs).take (i - 1 + 1))).length := fun h0 => by rw [hx, show i - 1 + 1 = i by omega]
    refine ⟨fun c => ?_, fun c => ?_⟩
    · have hlt : i < ss.length := by omega
      have h5' := h5 hlt
      refine row_at her (cellsF_get hlt) (by omega) fun p hp hh => ⟨_, hh, br_f (by omega) (br_f (by omega) ⟨fun c2 => ?_, fun c2 => ?_⟩)⟩
      · rw [hw (by omega)]
        refine row_at her (cellsF_get (show i - 1 < ss.length by omega)) (by omega) fun p hp hh => ⟨_, hh, br_f (fun hn => hn (hlast (by omega))) ?_⟩
        rw [hg]; exact rowsCmp3 H hl hr hg hgr hm (by omega) i 0 F (by omega) (by omega) (by omega)
      · rw [hg]; exact rowsCmp4 H hl hr hg hgr hm (by omega) i 0 F (by omega) (by omega) (by omega)
    · refine br_f (by omega) ⟨fun c2 => ?_, fun c2 => ?_⟩
      · rw [hw (by omega)]
        refine row_at her (cellsF_get (show i - 1 < ss.length by omega)) (by omega) fun p hp hh => ⟨_, hh, br_f (fun hn => hn (hlast (by omega))) ?_⟩
        rw [hg]; exact rowsCmp5 H hl hr hg hgr hm (by omega) i 0 F (by omega) (by omega) (by omega)
      · rw [hg]; exact rowsCmp6 H hl hr hg hgr hm (by omega) i 0 F (by omega) (by omega) (by omega)
  | succ m ih =>
    intro i k hmi hi hk
    obtain ⟨k, rfl⟩ : ∃ j, k = j + 1 := ⟨k - 1, by omega⟩
    have hlt : i < ss.length := by omega
    have h4' := h4 (i + 1) (by omega)
    refine br_t (by omega) (row_at her (cellsF_get hlt) (by omega) fun p hp hh => ⟨_, hh, br_t (by omega) ?_⟩)
    rw [w64_id (by omega), show (i : Int) + 1 = ((i + 1 : Nat) : Int) by omega]
    exact ih (i + 1) k (by omega) (by omega) (by omega)

theorem FrameRows_loop {F : Nat} (hF : 3000 ≤ F) {l : Sl} {x2 : Int} {ss : List ByteArray} (H : SH) (hl : l.len = ss.length) (hr : H.row l.a (ss.map fun s => .string s)) (hs : ss.length ≤ 20) (h0 : 0 ≤ x2) (h1 : x2 ≤ 65535) :
    ∀ (m i k : Nat) (e : Sl) (H' : SH), ss.length - i = m → i ≤ ss.length → m < k → (∀ s ∈ ss.take i, s.size ≤ 100) → Own H H' 3 1 e (cellsF i (endsF (ss.map bs))) →
      ladinglaw03_FrameRows.l1 F (fun b _ => b = true) k l x2 (ofL (flatS ((ss.map bs).take i))) e l ss.length i H' := by
  have hsz : ∀ ts : List ByteArray, (∀ s ∈ ts, s.size ≤ 100) → (flatS (ts.map bs)).length ≤ ts.length * 106 := by
    intro ts
    induction ts with
    | nil => intro _; simp [flatS]
    | cons t ts iht =>
      intro h
      have := iht fun s hs => h s (by simp [hs])
      have := h t (by simp)
      rw [List.map_cons, flatS_cons, List.length_append, sealL_len, bs_len, List.length_cons]; omega
  intro m
  induction m with
  | zero =>
    intro i k e H' hm hi hk hsm ho
    obtain ⟨k, rfl⟩ : ∃ j, k = j + 1 := ⟨k - 1, by omega⟩
    obtain rfl : i = ss.length := by omega
    rw [List.take_length] at hsm
    have hall : (ss.map bs).take ss.length = ss.map bs := by rw [List.take_of_length_le (by simp)]
    rw [hall]
    have hb := hsz ss hsm
    have hb2 : ss.length * 106 ≤ 2120 := by omega
    refine br_f (by omega) ?_
    rw [ofL_size, w64_id (x := x2) (by omega), w64_id (by omega)]
    have hmod : x2.tmod (((flatS (ss.map bs)).length : Int) + 1) = x2 % (((flatS (ss.map bs)).length : Int) + 1) := Int.tmod_eq_emod_of_nonneg h0
    rw [hmod]
    have hn0 := Int.emod_nonneg x2 (show (((flatS (ss.map bs)).length : Int) + 1) ≠ 0 by omega)
    have hn1 := Int.emod_lt_of_pos x2 (show 0 < (((flatS (ss.map bs)).length : Int) + 1) by omega)
    obtain ⟨n, hn⟩ : ∃ n : Nat, x2 % (((flatS (ss.map bs)).length : Int) + 1) = n := ⟨(x2 % (((flatS (ss.map bs)).length : Int) + 1)).toNat, by omega⟩
    rw [hn] at hn0 hn1 ⊢
    refine ⟨by omega, by omega, by omega, by omega, ?_⟩
    have ht : ∀ t ∈ ss.map bs, t.length ≤ 60000 := by
      intro t ht; obtain ⟨s, h1, rfl⟩ := List.mem_map.1 ht
      have := hsm s h1; rw [bs_len]; omega
    obtain ⟨many, rest, g1, g2, g3, g4, g5⟩ := flatS_cut (ss.map bs) n ht (by omega)
    rw [List.length_map] at g1 g5
    have hex : bs ((ofL (flatS (ss.map bs))).extract (0 : Int).toNat (n : Int).toNat) = flatS ((ss.map bs).take many) ++ rest := by
      rw [bs_extract, bs_ofL, ← g2]; simp
    have hsz2 : ((ofL (flatS (ss.map bs))).extract (0 : Int).toNat (n : Int).toNat).size ≤ 2120 := by
      rw [← bs_len, bs_extract, bs_ofL, List.length_drop, List.length_take]; omega
    refine All_spec (by omega) (by omega) (by omega) hex g3 (fun t h => ht t (List.mem_of_mem_take h)) (by rw [List.length_take]; omega) fun g H'' hg => ?_
    have hgl : g.len = many := by have := hg.len; rw [List.length_map, List.length_take, List.length_map] at this; omega
    have hel : e.len = ss.length := by have := ho.len; rw [cellsF_len] at this; omega
    exact rowsMany hF H'' hl ((hr.le ho.le).le hg.le) hs hel (ho.row.le hg.le) hgl hg.row g1 g4 g5 rfl many 0 F (by omega) (by omega) (by omega)
  | succ m ih =>
    intro i k e H' hm hi hk hsm ho
    obtain ⟨k, rfl⟩ : ∃ j, k = j + 1 := ⟨k - 1, by omega⟩
    have hlt : i < ss.length := by omega
    have hel : e.len = i := by have := ho.len; rw [cellsF_len] at this; omega
    refine br_t (by omega) (row_at (hr.le ho.le) (v := .string ss[i]) (by simp [hlt]) (by omega) fun p hp hh => ⟨_, hh, ⟨fun c => ⟨H', .refl _, rfl⟩, fun c => ?_⟩⟩)
    have hsi : (ss[i]).size ≤ 100 := by omega
    have hsm' : ∀ s ∈ ss.take (i + 1), s.size ≤ 100 := by
      intro s h
      rw [List.take_succ_eq_append_getElem hlt] at h
      rcases List.mem_append.1 h with h | h
      · exact hsm s h
      · simp at h; subst h; exact hsi
    have hb := hsz _ hsm
    rw [List.map_take] at hb
    have hb2 : (ss.take i).length * 106 ≤ 2120 := by rw [List.length_take]; omega
    refine Seal_spec (by omega) (by omega) (by omega) (o_none ⟨by rw [ofL_size, ofL_size, sealL_len, bs_len]; omega, ?_⟩)
    have hcat : ofL (flatS ((ss.map bs).take i)) ++ ofL (sealL (bs ss[i])) = ofL (flatS ((ss.map bs).take (i + 1))) := by
      rw [ofL_append, List.take_succ_eq_append_getElem (by simpa using hlt), flatS_append]
      simp [flatS]
    rw [hcat, ofL_size]
    refine ho.append (by rw [hel]; omega) (by rw [hel]; omega) rfl one_int fun e' H'' ho' hl' => ?_
    rw [w64_id (by omega), show (i : Int) + 1 = ((i + 1 : Nat) : Int) by omega]
    refine ih (i + 1) k e' H'' (by omega) (by omega) (by omega) hsm' ?_
    have : cellsF i (endsF (ss.map bs)) ++ [.int .i64 ((flatS ((ss.map bs).take (i + 1))).length : Int)] = cellsF (i + 1) (endsF (ss.map bs)) := by
      simp [cellsF, List.range_succ, endsF]
    rw [← this]; exact ho'
theorem FrameRows_wp {F : Nat} (hF : 3000 ≤ F) {l : Sl} {x2 : Int} {ss : List ByteArray} {H : SH} (hl : l.len = ss.length) (hr : H.row l.a (ss.map fun s => .string s)) (h0 : 0 ≤ x2) (h1 : x2 ≤ 65535) : ladinglaw03_FrameRows.wp F l x2 H (fun b _ => b = true) := by
  refine awake03_spec hF (br_t rfl ⟨fun c => ⟨H, .refl H, rfl⟩, fun c => ?_⟩)
  have := FrameRows_loop hF H hl hr (by omega) h0 h1 ss.length 0 F Sl.nil H (by omega) (by omega) (by omega) (by simp) (Own.nil H 3 1)
  rw [hl]
  exact this
end Go.Proofs.Ytpnbehgkbfhacaa.K
