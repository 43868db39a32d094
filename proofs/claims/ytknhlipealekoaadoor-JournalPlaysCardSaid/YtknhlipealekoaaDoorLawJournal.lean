/- What the laws of journal have in common. -/
import Derived.Test.YtknhlipealekoaaDoorSpecJournal
set_option linter.unusedVariables false
set_option linter.unusedSimpArgs false
namespace Go.Proofs.YtknhlipealekoaaDoor.K
open Go

theorem Chain.append : ∀ {A B : List LP} {H0 H1 H : SH}, Chain A H1 H → Chain B H0 H1 → Chain (A ++ B) H0 H
  | [], B, H0, H1, H, h, k => Chain.above k h
  | I :: A, B, H0, H1, H, ⟨H2, h1, h2⟩, k => ⟨H2, h1, Chain.append h2 k⟩
section
variable {F : Nat} {H H0 : SH}
theorem great15 {l : Sl} {ss : List ByteArray} (hF : 100 ≤ F) (hl : l.len = ss.length) (hr : H.row l.a (strc ss)) {K : Bool → SH → Prop} (k1 : K true H) (k2 : ss.length ≤ 60 → (∀ s ∈ ss, s.size ≤ 100) → K false H) : ladinglaw15_great.wp F l H K := by
  refine ⟨fun _ => ⟨H, .refl H, k1⟩, fun c => ?_⟩
  have h60 : ss.length ≤ 60 := by omega
  have loop : ∀ (j i f : Nat), ss.length - i = j → i ≤ ss.length → j < f → (∀ s ∈ ss.take i, s.size ≤ 100) → ladinglaw15_great.l1 F K f l (ss.length : Int) (i : Int) H := by
    intro j
    induction j with
    | zero =>
      intro i f hj hi hf hs
      obtain ⟨f, rfl⟩ : ∃ i, f = i + 1 := ⟨f - 1, by omega⟩
      rw [List.take_of_length_le (by omega)] at hs
      exact br_f (by omega) ⟨H, .refl H, k2 h60 hs⟩
    | succ j ih =>
      intro i f hj hi hf hs
      obtain ⟨f, rfl⟩ : ∃ i, f = i + 1 := ⟨f - 1, by omega⟩
      have hlt : i < ss.length := by omega
      refine br_t (by omega) (row_at hr (strc_get hlt) (by omega) fun p hp hh => ⟨ss[i], hh, fun _ => ⟨H, .refl H, k1⟩, fun c => ?_⟩)
      rw [w64_id (by omega), show (i : Int) + 1 = ((i + 1 : Nat) : Int) by omega]
      refine ih (i + 1) f (by omega) (by omega) (by omega) fun s h => ?_
      rw [List.take_succ_eq_append_getElem hlt] at h
      rcases List.mem_append.1 h with h | h
      · exact hs s h
      · rw [List.mem_singleton.1 h]; omega
  rw [hl]
  exact loop ss.length 0 F (by omega) (by omega) (by omega) (by simp)
theorem flat_le {ss : List ByteArray} (h : ∀ s ∈ ss, s.size ≤ 100) : (flatS (ss.map bs)).length ≤ ss.length * 106 := by
  induction ss with
  | nil => simp [flatS]
  | cons s ss ih =>
    have := ih fun t ht => h t (by simp [ht])
    have := h s (by simp)
    simp only [List.map_cons, flatS_cons, List.length_append, sealL_len, bs_len, List.length_cons]; omega
theorem ofL_map (ss : List ByteArray) : (ss.map bs).map ofL = ss := by
  rw [List.map_map]
  have : (ofL ∘ bs) = id := by funext s; exact ofL_bs s
  rw [this, List.map_id]
/-- A disk that has just these bytes, and no fuse. -/
structure Has (X : ByteArray) (m : DM) : Prop where
  good : m.good 0 100000
  down : m.down = false
  left : m.left = -1
  log : m.now.log = X
  wait : m.waits = [] → m.lasts = m.now
theorem Has.slots {X : ByteArray} {m : DM} (h : Has X m) : m.now.slots = [] := List.eq_nil_of_length_eq_zero h.good.now
theorem Has.opened {X : ByteArray} {m : DM} (h : Has X m) : Has X (m.opened X.size) ∧ (m.opened X.size).waits = [] := by
  have e := opened_free (m := m) (n := X.size) h.down h.left (by rw [h.log]; exact Nat.le_refl _) (fun hw _ => h.wait hw)
  have g : (m.opened X.size).good 0 100000 := h.good.opened
  have ex : m.now.log.extract 0 X.size = X := by
    rw [h.log]
    apply bs_inj
    rw [bs_extract, List.take_of_length_le (by rw [bs_len]; omega)]; rfl
  rw [e] at g ⊢
  exact ⟨⟨g, rfl, rfl, ex, fun _ => rfl⟩, rfl⟩
theorem Has.sync {X : ByteArray} {m : DM} (h : Has X m) : Has X m.sync := by
  have g := h.good.sync
  rw [sync_free h.down h.left] at g ⊢
  exact ⟨g, h.down, h.left, h.log, fun _ => rfl⟩
theorem Has.append {X Y : ByteArray} {m : DM} (h : Has X m) (g : (m.append Y).good 0 100000) : Has (X ++ Y) (m.append Y) := by
  by_cases hY : Y.size = 0
  · have hYe : Y = ByteArray.empty := bs_inj (by rw [List.eq_nil_of_length_eq_zero (l := bs Y) (by rw [bs_len]; exact hY)]; rfl)
    have e : m.append Y = m := by
      unfold DM.append DM.does DM.burn DM.lies
      simp [h.down, h.left, hY]
    rw [e, hYe]
    have : X ++ ByteArray.empty = X := bs_inj (by rw [bs_append]; simp [show bs ByteArray.empty = [] from rfl])
    rw [this]; exact h
  · rw [append_free h.down h.left hY] at g ⊢
    exact ⟨g, h.down, h.left, by show m.now.log ++ Y = _; rw [h.log], fun hw => by simp at hw⟩
theorem new_has : Has ByteArray.empty (DM.new 0) := ⟨(good_new (by omega)).more (by omega), rfl, rfl, rfl, fun _ => rfl⟩
theorem flat_none {ss : List ByteArray} : bs (ofL (flatS (ss.map bs))) = flatS (ss.map bs) ++ [] := by rw [bs_ofL, List.append_nil]

end
end Go.Proofs.YtknhlipealekoaaDoor.K
