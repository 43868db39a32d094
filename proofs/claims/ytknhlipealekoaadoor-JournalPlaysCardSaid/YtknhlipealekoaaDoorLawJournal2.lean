/- What the laws JournalLast and JournalPlays have in common. -/
import Derived.Test.YtknhlipealekoaaDoorLawJournal
import Derived.Test.YtknhlipealekoaaDoorSpecRef3
set_option linter.unusedVariables false
set_option linter.unusedSimpArgs false
namespace Go.Proofs.YtknhlipealekoaaDoor.K
open Go
section
variable {F : Nat} {H H0 H1 H2 : SH} {bd bj n : Nat} {m : DM} {ss : List ByteArray}
theorem JLen_spec (h : On (JrI bj bd ss n) H0 H) {K : Int → SH → Prop} (k : K ss.length H) : journal_Journal_Len.wp F (some (bj, 0)) H K := by
  obtain ⟨A, H1, h1, h2⟩ := jr_open h
  exact p_some ⟨A, h1.has rfl, H, .refl H, by rw [sl_len h2]; exact k⟩
theorem has15_spec {l : Sl} {X : ByteArray} (hF : 10000 ≤ F) (hl : l.len = ss.length) (hr : H.row l.a (strc ss)) (h60 : ss.length ≤ 1000000) (hsF : ss.length < F) (h100 : ∀ s ∈ ss, s.size ≤ 60000 ∧ s.size + 2 < F) (htot : (flatS (ss.map bs)).length ≤ 1000000000)
    (hd : m.down = false) (hlog : m.now.log = X) (hX : X = ofL (flatS (ss.map bs))) (d1 : On (DiskI bd m) H1 H) (j1 : On (JrI bj bd ss X.size) H2 H) {K : Bool → SH → Prop} (k : ∀ H', SH.le H H' → K true H') : ladinglaw15_has.wp F (some (bd, 0)) (some (bj, 0)) l H K := by
  have hmono : ∀ i, (flatS ((ss.map bs).take i)).length ≤ (flatS (ss.map bs)).length := fun i => by
    have := congrArg (fun l => (flatS l).length) (List.take_append_drop i (ss.map bs))
    simp only [flatS_append, List.length_append] at this
    omega
  have loop : ∀ (j i f : Nat), ss.length - i = j → i ≤ ss.length → j < f → ladinglaw15_has.l1 F K f (some (bd, 0)) (some (bj, 0)) l (ofL (flatS ((ss.map bs).take i))) l (ss.length : Int) (i : Int) H := by
    intro j
    induction j with
    | zero =>
      intro i f hj hi hf
      obtain ⟨f, rfl⟩ : ∃ i, f = i + 1 := ⟨f - 1, by omega⟩
      rw [List.take_of_length_le (by simp; omega), ← hX]
      refine br_f (by omega) (Log_spec hd d1 (o_none (br_t hlog (JBytes_spec j1 (br_t rfl (JLen_spec j1 (br_t (by omega) (JAll_spec h60 j1 fun la Ha oa => ?_))))))))
      have hdec : decide (ss = ss) = true := decide_eq_true rfl
      refine Same9_spec (sl_len oa) hl oa.row (hr.le oa.le) (by omega) (by omega) ?_
      rw [hdec]
      exact ⟨Ha, .refl _, k _ oa.le⟩
    | succ j ih =>
      intro i f hj hi hf
      obtain ⟨f, rfl⟩ : ∃ i, f = i + 1 := ⟨f - 1, by omega⟩
      have hlt : i < ss.length := by omega
      have hsi := h100 _ (List.getElem_mem hlt)
      have hcat : ofL (flatS ((ss.map bs).take i)) ++ ofL (sealL (bs ss[i])) = ofL (flatS ((ss.map bs).take (i + 1))) := by
        rw [ofL_append, List.take_succ_eq_append_getElem (by simpa using hlt), flatS_append]
        simp [flatS]
      refine br_t (by omega) (row_at hr (strc_get hlt) (by omega) fun p hp hh => ⟨ss[i], hh, refSeal_spec (by omega) hsi.1 hsi.2 ⟨?_, ?_⟩⟩)
      · have := hmono i
        rw [ofL_size, ofL_size, sealL_len, bs_len]; omega
      · rw [hcat, w64_id (by omega), show (i : Int) + 1 = ((i + 1 : Nat) : Int) by omega]
        exact ih (i + 1) f (by omega) (by omega) (by omega)
  have := loop ss.length 0 F (by omega) (by omega) hsF
  show ladinglaw15_has.l1 F K F (some (bd, 0)) (some (bj, 0)) l ByteArray.empty l (l.len : Int) 0 H
  rw [hl]
  exact this
end
end Go.Proofs.YtknhlipealekoaaDoor.K
