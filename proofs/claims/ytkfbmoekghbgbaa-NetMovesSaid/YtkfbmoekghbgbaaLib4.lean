/- Slices with something behind them; parts of slices. -/
import Derived.Test.YtkfbmoekghbgbaaLib3
import Derived.Test.YtkfbmoekghbgbaaSatNet
set_option linter.unusedVariables false
set_option linter.unusedSimpArgs false
namespace Go.Proofs.Ytkfbmoekghbgbaa.K
open Go
theorem wrl_app (A B vs : List Value) : wrl (A ++ B) A.length vs = A ++ (vs ++ B.drop vs.length) := by
  unfold wrl
  rw [List.take_left, List.append_assoc, ← List.drop_drop, List.drop_left]
/-- A slice with its array, which may have more behind it. -/
def SlG (E : TypeId) (size : Nat) (l : Sl) (cs : List Value) : Pr := fun H fp => cs.length = l.len * size ∧
  ((l.a = none ∧ l.len = 0 ∧ l.cap = 0 ∧ ∀ b, ¬ fp b) ∨ ∃ b pre post, l.a = some (b, pre.length) ∧ l.len ≤ l.cap ∧ (∃ sz, H b = some ⟨pre ++ (cs ++ post), E, false, sz⟩ ∧ pre.length + l.cap * size ≤ sz) ∧ ∀ c, fp c ↔ c = b)
theorem Loc.slg {E : TypeId} {size : Nat} {l : Sl} {cs : List Value} : Loc (SlG E size l cs) where
  loc := by
    rintro H H' fp ⟨h0, h⟩ hh
    refine ⟨h0, ?_⟩
    rcases h with h | ⟨b, pre, post, h1, h2, ⟨sz, h3, h4⟩, h5⟩
    · exact .inl h
    · exact .inr ⟨b, pre, post, h1, h2, ⟨sz, by rw [hh b ((h5 b).2 rfl)]; exact h3, h4⟩, h5⟩
  in_ := by
    rintro H fp b ⟨h0, h⟩ hb
    rcases h with ⟨_, _, _, h⟩ | ⟨b', pre, post, h1, h2, ⟨sz, h3, h4⟩, h5⟩
    · exact absurd hb (h b)
    · rw [(h5 b).1 hb, h3]; simp
section
variable {E : TypeId} {size : Nat} {l : Sl} {cs : List Value} {H0 H : SH}
theorem On.slg (h : On (SlI E size l cs) H0 H) : On (SlG E size l cs) H0 H := by
  obtain ⟨h1, fp, ⟨h2, h3⟩, h4⟩ := h
  refine ⟨h1, fp, ⟨h2, ?_⟩, h4⟩
  rcases h3 with h | ⟨b, pre, k1, k2, ⟨sz, k3, k5⟩, k4⟩
  · exact .inl h
  · exact .inr ⟨b, pre, [], k1, k2, ⟨sz, by simpa using k3, k5⟩, k4⟩
theorem On.nilG (E : TypeId) (size : Nat) (H : SH) : On (SlG E size Sl.nil []) H H := (On.nil E size H).slg
theorem On.rowG (h : On (SlG E size l cs) H0 H) : H.row l.a cs := by
  obtain ⟨h1, fp, ⟨h2, h3⟩, h4⟩ := h
  rcases h3 with ⟨_, h0, _⟩ | ⟨b, pre, post, k1, k2, ⟨sz, k3, k5⟩, k4⟩
  · left; rw [h0] at h2; simpa using h2
  · right
    refine ⟨_, _, k1, k3, fun j u hu => ?_⟩
    have hj : j < cs.length := (List.getElem?_eq_some_iff.1 hu).1
    show (pre ++ (cs ++ post))[pre.length + j]? = _
    rw [List.getElem?_append_right (by omega), Nat.add_sub_cancel_left, List.getElem?_append_left hj]; exact hu
theorem On.lenG (h : On (SlG E size l cs) H0 H) : cs.length = l.len * size := by
  obtain ⟨h1, fp, ⟨h2, h3⟩, h4⟩ := h
  exact h2
theorem On.capG (h : On (SlG E size l cs) H0 H) : l.len ≤ l.cap := by
  obtain ⟨h1, fp, ⟨h2, h3⟩, h4⟩ := h
  rcases h3 with ⟨_, h0, h5, _⟩ | ⟨b, pre, post, k1, k2, _⟩
  · omega
  · exact k2
/-- .. and where it lies. -/
theorem On.atG (h : On (SlG E size l cs) H0 H) : (l.a = none ∧ l.len = 0 ∧ l.cap = 0) ∨ ∃ b pre post sz, l.a = some (b, pre.length) ∧ H0 b = none ∧ H b = some ⟨pre ++ (cs ++ post), E, false, sz⟩ ∧ pre.length + l.cap * size ≤ sz := by
  obtain ⟨h1, fp, ⟨h2, h3⟩, h4⟩ := h
  rcases h3 with ⟨h0, h5, h6, _⟩ | ⟨b, pre, post, k1, k2, ⟨sz, k3, k5⟩, k4⟩
  · exact .inl ⟨h0, h5, h6⟩
  · exact .inr ⟨b, pre, post, sz, k1, h4 b ((k4 b).2 rfl), k3, k5⟩
theorem On.mkG {b : Nat} {pre post : List Value} {sz : Nat} (hle : SH.le H0 H) (hl : cs.length = l.len * size) (ha : l.a = some (b, pre.length)) (hc : l.len ≤ l.cap) (h0 : H0 b = none) (hb : H b = some ⟨pre ++ (cs ++ post), E, false, sz⟩) (hs : pre.length + l.cap * size ≤ sz) : On (SlG E size l cs) H0 H :=
  ⟨hle, fun c => c = b, ⟨hl, .inr ⟨b, pre, post, ha, hc, ⟨sz, hb, hs⟩, fun _ => .rfl⟩⟩, fun c hc => by rw [hc]; exact h0⟩
theorem On.appendG {bytes m : Nat} {news : List Value} {K : Sl → SH → Prop} (h : On (SlG E size l cs) H0 H) (hb : (l.len + m) * bytes ≤ 140737488355328) (h63 : l.len + m ≤ 9223372036854775807) (hn : news.length = m * size)
    (h1 : ∀ u ∈ news, u.oneCell' = true) (hk : ∀ l' H', On (SlG E size l' (cs ++ news)) H0 H' → l'.len = l.len + m → K l' H') : AppendQ H E size bytes l m news K := by
  have hl := h.lenG
  have hc := h.capG
  have hlen : (cs ++ news).length = (l.len + m) * size := by rw [List.length_append, hl, hn, Nat.add_mul]
  have hle := h.le
  refine ⟨hb, h63, hn, h1, fun hc2 => ⟨fun ha => ?_, fun p hp => ?_⟩, fun hc2 => ⟨cs, hl, h.rowG, fun b cap hbn hcap => ?_⟩⟩
  · rcases h.atG with ⟨_, h2, h3⟩ | ⟨b, pre, post, sz, k1, _⟩
    · refine hk _ _ ⟨hle, fun _ => False, ⟨hlen, .inl ⟨rfl, ?_, h3, fun _ h => h⟩⟩, fun _ h => h.elim⟩ rfl
      show l.len + m = 0
      omega
    · rw [k1] at ha; cases ha
  · rcases h.atG with ⟨h0, _⟩ | ⟨b, pre, post, sz, k1, k2, k3, k4⟩
    · rw [h0] at hp; cases hp
    · rw [k1] at hp; cases hp
      have hcl : (l.len + m) * size ≤ l.cap * size := Nat.mul_le_mul_right _ hc2
      refine ⟨_, k3, rfl, by simp [hl], by simp only []; omega, hk _ _ (On.mkG (b := b) (pre := pre) (post := post.drop news.length) (sz := sz) (hle.upd k2 _) hlen rfl hc2 k2 ?_ k4) rfl⟩
      rw [SH.upd_same]
      have e : pre.length + l.len * size = (pre ++ cs).length := by rw [List.length_append, hl]
      simp only [e]
      rw [← List.append_assoc, wrl_app]
      simp [List.append_assoc]
  · exact hk _ _ (On.mkG (b := b) (pre := []) (post := []) (hle.upd (hle.none hbn) _) hlen rfl hcap (hle.none hbn) (by rw [SH.upd_same]; simp; rfl) (by simp)) rfl
/-- A part. -/
theorem On.subG (h : On (SlG E size l cs) H0 H) {lo hi : Nat} (h1 : lo ≤ hi) (h2 : hi ≤ l.len) : On (SlG E size (Sl.sub size l lo hi l.cap) ((cs.take (hi * size)).drop (lo * size))) H0 H := by
  have hl := h.lenG
  have hc := h.capG
  have hle := h.le
  have hhs : hi * size ≤ l.len * size := Nat.mul_le_mul_right _ h2
  have hls : lo * size ≤ hi * size := Nat.mul_le_mul_right _ h1
  have hlen : ((cs.take (hi * size)).drop (lo * size)).length = (hi - lo) * size := by rw [List.length_drop, List.length_take, hl, Nat.sub_mul]; omega
  rcases h.atG with ⟨k0, k1, k2⟩ | ⟨b, pre, post, sz, k1, k2, k3, k4⟩
  · refine ⟨hle, fun _ => False, ⟨hlen, .inl ⟨?_, ?_, ?_, fun _ h => h⟩⟩, fun _ h => h.elim⟩
    · unfold Sl.sub; simp [k0]
    · show hi - lo = 0; omega
    · show l.cap - lo = 0; omega
  · by_cases hm : l.cap = lo
    · have e0 : (cs.take (hi * size)).drop (lo * size) = [] := List.eq_nil_of_length_eq_zero (by rw [hlen, show hi - lo = 0 by omega, Nat.zero_mul])
      refine On.mkG (b := b) (pre := pre) (post := cs ++ post) (sz := sz) hle hlen (by unfold Sl.sub; rw [if_pos hm]; exact k1) (by show hi - lo ≤ l.cap - lo; omega) k2 (by rw [e0]; simpa using k3) ?_
      show pre.length + (l.cap - lo) * size ≤ sz
      have : l.cap - lo = 0 := by omega
      rw [this, Nat.zero_mul]; omega
    · refine On.mkG (b := b) (pre := pre ++ cs.take (lo * size)) (post := cs.drop (hi * size) ++ post) (sz := sz) hle hlen ?_ (by show hi - lo ≤ l.cap - lo; omega) k2 ?_ ?_
      · unfold Sl.sub; rw [if_neg hm, k1]
        simp only [Option.map_some, List.length_append, List.length_take]
        rw [Nat.min_eq_left (by omega)]
      · rw [k3]
        congr 1
        congr 1
        rw [List.append_assoc]
        congr 1
        rw [← List.append_assoc, ← List.append_assoc]
        congr 1
        have e1 : cs.take (lo * size) = (cs.take (hi * size)).take (lo * size) := by rw [List.take_take, Nat.min_eq_left hls]
        rw [e1, List.take_append_drop, List.take_append_drop]
      · show (pre ++ cs.take (lo * size)).length + (l.cap - lo) * size ≤ sz
        rw [List.length_append, List.length_take, Nat.min_eq_left (by omega), Nat.sub_mul]
        have : lo * size ≤ l.cap * size := Nat.mul_le_mul_right _ (by omega)
        omega
/-- Some of its cells are written. -/
theorem On.putG (h : On (SlG E size l cs) H0 H) {k : Nat} {vs : List Value} (hk : k + vs.length ≤ cs.length) {p : Nat × Nat} (hp : l.a = some p) : SH.wrs H (p.1, p.2 + k) vs.length ∧ On (SlG E size l (wrl cs k vs)) H0 (SH.setl H (p.1, p.2 + k) vs) := by
  rcases h.atG with ⟨a, _⟩ | ⟨b, pre, post, sz, k1, k2, k3, k4⟩
  · rw [a] at hp; cases hp
  · rw [k1] at hp; cases hp
    refine ⟨⟨_, k3, rfl, by simp; omega⟩, ?_⟩
    have e : wrl (pre ++ (cs ++ post)) (pre.length + k) vs = pre ++ (wrl cs k vs ++ post) := by
      rw [wrl_mid pre (cs ++ post) k vs (by simp; omega)]
      congr 1
      unfold wrl
      rw [List.take_append_of_le_length (by omega), List.drop_append_of_le_length (by omega)]
      simp [List.append_assoc]
    have : SH.setl H (b, pre.length + k) vs = H.upd b ⟨pre ++ (wrl cs k vs ++ post), E, false, sz⟩ := by unfold SH.setl; simp only [k3, e]
    dsimp only
    rw [this]
    refine On.mkG (b := b) (pre := pre) (post := post) (sz := sz) (h.le.upd k2 _) ?_ k1 h.capG k2 (SH.upd_same _ _ _) k4
    rw [← h.lenG]; unfold wrl; simp; omega
theorem row_subG {H : SH} {l : Sl} {cs : List Value} {lo hi m size : Nat} (h : H.row l.a cs) (h1 : lo ≤ hi) (h2 : hi ≤ m) : H.row (Sl.sub size l lo hi m).a ((cs.take (hi * size)).drop (lo * size)) := by
  by_cases hm : m = lo
  · left
    have : hi = lo := by omega
    subst this
    rw [List.drop_eq_nil_of_le (by rw [List.length_take]; omega)]
  · rcases h with h0 | ⟨p, o, ha, hb, hh⟩
    · left; rw [h0]; simp
    · refine .inr ⟨(p.1, p.2 + lo * size), o, by unfold Sl.sub; rw [if_neg hm, ha]; rfl, hb, fun j u hu => ?_⟩
      rw [List.getElem?_drop, List.getElem?_take] at hu
      split at hu
      · have := hh _ _ hu
        rw [← Nat.add_assoc] at this
        exact this
      · simp at hu
end
/-- .. many of them. -/
theorem Chain.keepG : ∀ (A : List LP) {B : List LP} {H0 H : SH}, Chain (A ++ B) H0 H → Chain A H0 H
  | [], _, _, _, h => Chain.le h
  | _ :: A, _, _, _, ⟨H1, h1, h2⟩ => ⟨H1, h1, Chain.keepG A h2⟩
def blkL (b : Nat) (o : AO) : LP := ⟨Blk b o, .blk⟩
def slG (E : TypeId) (size : Nat) (l : Sl) (cs : List Value) : LP := ⟨SlG E size l cs, .slg⟩
theorem Chain.on {I : LP} {L : List LP} {H0 H : SH} (h : Chain (I :: L) H0 H) : On I.1 H0 H := by
  obtain ⟨H1, h1, h2⟩ := h
  exact h1.below h2.le
/-- One thing, wherever it stands. -/
theorem Chain.at (A : List LP) {I : LP} {B : List LP} {H0 H : SH} (h : Chain (A ++ I :: B) H0 H) : On I.1 H0 H := (Chain.pull A h).on
end Go.Proofs.Ytkfbmoekghbgbaa.K
