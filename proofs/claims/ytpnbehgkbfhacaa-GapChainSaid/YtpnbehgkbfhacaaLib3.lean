/- Things that lie in memory beside each other: what each has, and what it leaves alone. -/
import Derived.Test.YtpnbehgkbfhacaaLib2
set_option linter.unusedVariables false
set_option linter.unusedSimpArgs false
namespace Go.Proofs.Ytpnbehgkbfhacaa.K
open Go

/-- A thing: what lies in memory, and in which blocks. -/
def Pr := SH → (Nat → Prop) → Prop
structure Loc (I : Pr) : Prop where
  loc : ∀ {H H' : SH} {fp : Nat → Prop}, I H fp → (∀ b, fp b → H' b = H b) → I H' fp
  in_ : ∀ {H : SH} {fp : Nat → Prop} {b : Nat}, I H fp → fp b → H b ≠ none
/-- The thing lies beside H0. -/
def On (I : Pr) (H0 H : SH) : Prop := SH.le H0 H ∧ ∃ fp : Nat → Prop, I H fp ∧ ∀ b, fp b → H0 b = none
theorem On.le {I : Pr} {H0 H : SH} (h : On I H0 H) : SH.le H0 H := h.1
theorem On.below {I : Pr} {H0 H1 H : SH} (h : On I H1 H) (k : SH.le H0 H1) : On I H0 H := by
  obtain ⟨h1, fp, h2, h3⟩ := h
  exact ⟨k.trans h1, fp, h2, fun b hb => k.none (h3 b hb)⟩
/-- More lies there. -/
theorem On.above {I : Pr} (hI : Loc I) {H0 H H' : SH} (h : On I H0 H) (k : SH.le H H') : On I H0 H' := by
  obtain ⟨h1, fp, h2, h3⟩ := h
  refine ⟨h1.trans k, fp, hI.loc h2 fun b hb => ?_, h3⟩
  have := hI.in_ h2 hb
  cases hc : H b with
  | none => exact absurd hc this
  | some o => exact k b o hc
open Classical in
theorem On.swap {I J : Pr} (hI : Loc I) (hJ : Loc J) {H0 H1 H : SH} (h : On I H1 H) (k : On J H0 H1) : ∃ H2, On J H2 H ∧ On I H0 H2 := by
  obtain ⟨h1, f, h2, h3⟩ := h
  obtain ⟨k1, g, k2, k3⟩ := k
  have hd : ∀ b, g b → H b = H1 b := fun b hb => by
    have := hJ.in_ k2 hb
    cases hc : H1 b with
    | none => exact absurd hc this
    | some o => exact h1 b o hc
  have hfg : ∀ b, f b → g b → False := fun b hf hg => hJ.in_ k2 hg (h3 b hf)
  refine ⟨fun b => if g b then none else H b, ⟨fun b o hb => ?_, g, hJ.loc k2 hd, fun b hb => if_pos hb⟩, fun b o hb => ?_, f, hI.loc h2 fun b hb => if_neg fun hg => hfg b hb hg, fun b hb => k1.none (h3 b hb)⟩
  · dsimp only at hb
    split at hb
    · cases hb
    · exact hb
  · dsimp only
    rw [if_neg fun hg => by rw [k3 b hg] at hb; cases hb]
    exact h1 b o (k1 b o hb)
def Star (I J : Pr) : Pr := fun H fp => ∃ f g : Nat → Prop, I H f ∧ J H g ∧ (∀ b, f b → g b → False) ∧ ∀ b, fp b ↔ f b ∨ g b
theorem Loc.star {I J : Pr} (hI : Loc I) (hJ : Loc J) : Loc (Star I J) where
  loc := fun ⟨f, g, h1, h2, h3, h4⟩ h => ⟨f, g, hI.loc h1 fun b hb => h b ((h4 b).2 (.inl hb)), hJ.loc h2 fun b hb => h b ((h4 b).2 (.inr hb)), h3, h4⟩
  in_ := fun ⟨f, g, h1, h2, h3, h4⟩ h => by
    rcases (h4 _).1 h with h | h
    · exact hI.in_ h1 h
    · exact hJ.in_ h2 h
theorem On.star {I J : Pr} (hI : Loc I) (hJ : Loc J) {H0 H1 H : SH} (h : On I H1 H) (k : On J H0 H1) : On (Star I J) H0 H := by
  obtain ⟨h1, f, h2, h3⟩ := h
  obtain ⟨k1, g, k2, k3⟩ := k
  refine ⟨k1.trans h1, fun b => f b ∨ g b, ⟨f, g, h2, hJ.loc k2 fun b hb => ?_, fun b hf hg => hJ.in_ k2 hg (h3 b hf), fun b => .rfl⟩, fun b hb => ?_⟩
  · have := hJ.in_ k2 hb
    cases hc : H1 b with
    | none => exact absurd hc this
    | some o => exact h1 b o hc
  · rcases hb with hb | hb
    · exact k1.none (h3 b hb)
    · exact k3 b hb
open Classical in
theorem On.unstar {I J : Pr} (hI : Loc I) (hJ : Loc J) {H0 H : SH} (h : On (Star I J) H0 H) : ∃ H1, On I H1 H ∧ On J H0 H1 := by
  obtain ⟨h1, fp, ⟨f, g, k1, k2, k3, k4⟩, h3⟩ := h
  refine ⟨fun b => if f b then none else H b, ⟨fun b o hb => ?_, f, k1, fun b hb => if_pos hb⟩, fun b o hb => ?_, g, hJ.loc k2 fun b hb => if_neg fun hf => k3 b hf hb, fun b hb => h3 b ((k4 b).2 (.inr hb))⟩
  · dsimp only at hb
    split at hb
    · cases hb
    · exact hb
  · dsimp only
    rw [if_neg fun hf => by rw [h3 b ((k4 b).2 (.inl hf))] at hb; cases hb]
    exact h1 b o hb
/-- Nothing. -/
def Emp : Pr := fun _ fp => ∀ b, ¬ fp b
theorem Loc.emp : Loc Emp := ⟨fun h _ => h, fun h hb => absurd hb (h _)⟩
/-- A block. -/
def Blk (b : Nat) (o : AO) : Pr := fun H fp => H b = some o ∧ ∀ c, fp c ↔ c = b
theorem Loc.blk {b : Nat} {o : AO} : Loc (Blk b o) := ⟨fun ⟨h1, h2⟩ h => ⟨by rw [h b ((h2 b).2 rfl)]; exact h1, h2⟩, fun ⟨h1, h2⟩ hb => by rw [(h2 _).1 hb, h1]; simp⟩
theorem On.blk {b : Nat} {o : AO} {H0 H : SH} : On (Blk b o) H0 H ↔ SH.le H0 H ∧ H0 b = none ∧ H b = some o :=
  ⟨fun ⟨h1, fp, ⟨h2, h3⟩, h4⟩ => ⟨h1, h4 b ((h3 b).2 rfl), h2⟩, fun ⟨h1, h2, h3⟩ => ⟨h1, fun c => c = b, ⟨h3, fun _ => .rfl⟩, fun c hc => by rw [hc]; exact h2⟩⟩
theorem On.new {b : Nat} {o : AO} {H : SH} (h : H b = none) : On (Blk b o) H (H.upd b o) := On.blk.2 ⟨le_upd h, h, SH.upd_same _ _ _⟩
theorem On.upd {b : Nat} {o o' : AO} {H0 H : SH} (h : On (Blk b o) H0 H) : On (Blk b o') H0 (H.upd b o') := by
  obtain ⟨h1, h2, h3⟩ := On.blk.1 h
  exact On.blk.2 ⟨h1.upd h2 _, h2, SH.upd_same _ _ _⟩
theorem On.setl {b k : Nat} {o : AO} {vs : List Value} {H0 H : SH} (h : On (Blk b o) H0 H) : On (Blk b { o with cells := wrl o.cells k vs }) H0 (SH.setl H (b, k) vs) := by
  have : SH.setl H (b, k) vs = H.upd b { o with cells := wrl o.cells k vs } := by unfold SH.setl; simp only [(On.blk.1 h).2.2]
  rw [this]; exact h.upd
theorem On.has {b k : Nat} {o : AO} {v : Value} {H0 H : SH} (h : On (Blk b o) H0 H) (hv : o.cells[k]? = some v) : H.has (b, k) v := ⟨o, (On.blk.1 h).2.2, hv⟩
theorem On.wrs {b k n : Nat} {o : AO} {H0 H : SH} (h : On (Blk b o) H0 H) (hr : o.ro = false) (hk : k + n ≤ o.cells.length) : SH.wrs H (b, k) n := ⟨o, (On.blk.1 h).2.2, hr, hk⟩
/-- Many things beside each other. -/
def LP := { I : Pr // Loc I }
def Chain : List LP → SH → SH → Prop
  | [], H0, H => SH.le H0 H
  | I :: L, H0, H => ∃ H1, On I.1 H1 H ∧ Chain L H0 H1
theorem Chain.le : ∀ {L : List LP} {H0 H : SH}, Chain L H0 H → SH.le H0 H
  | [], _, _, h => h
  | _ :: _, _, _, ⟨_, h1, h2⟩ => (Chain.le h2).trans h1.le
theorem Chain.pull : ∀ (A : List LP) {I : LP} {B : List LP} {H0 H : SH}, Chain (A ++ I :: B) H0 H → Chain (I :: (A ++ B)) H0 H
  | [], _, _, _, _, h => h
  | a :: A, I, B, H0, H, ⟨H1, h1, h2⟩ => by
    obtain ⟨H2, h3, h4⟩ := Chain.pull A h2
    obtain ⟨H3, h5, h6⟩ := On.swap a.2 I.2 h1 h3
    exact ⟨H3, h5, H2, h6, h4⟩
theorem Chain.below : ∀ {L : List LP} {H0 H1 H : SH}, Chain L H1 H → SH.le H0 H1 → Chain L H0 H
  | [], _, _, _, h, k => k.trans h
  | _ :: _, _, _, _, ⟨H2, h1, h2⟩, k => ⟨H2, h1, Chain.below h2 k⟩
theorem Chain.cons {I : LP} {L : List LP} {H0 H1 H : SH} (h : On I.1 H1 H) (k : Chain L H0 H1) : Chain (I :: L) H0 H := ⟨H1, h, k⟩
/-- A thing is taken off: what it lay in stays. -/
theorem Chain.drop {I : LP} {L : List LP} {H0 H : SH} (h : Chain (I :: L) H0 H) : ∃ H1, Chain L H0 H1 ∧ SH.le H1 H := by
  obtain ⟨H1, h1, h2⟩ := h
  exact ⟨H1, h2, h1.le⟩
theorem Chain.above : ∀ {L : List LP} {H0 H H' : SH}, Chain L H0 H → SH.le H H' → Chain L H0 H'
  | [], _, _, _, h, k => h.trans k
  | I :: _, _, _, _, ⟨H1, h1, h2⟩, k => ⟨H1, h1.above I.2 k, h2⟩
/-- A new block, beside all. -/
theorem Chain.new {L : List LP} {H0 H : SH} (h : Chain L H0 H) {b : Nat} (hb : H b = none) (o : AO) : Chain (⟨Blk b o, .blk⟩ :: L) H0 (H.upd b o) := ⟨H, On.new hb, h⟩
/-- .. below all. -/
theorem Chain.temp : ∀ {L : List LP} {H0 H : SH}, Chain L H0 H → ∀ {b : Nat}, H b = none → ∀ (o : AO), ∃ H2, Chain L H2 (H.upd b o) ∧ H2 b = some o ∧ SH.le H0 H2
  | [], H0, H, h, b, hb, o => ⟨H0.upd b o, fun c oc hc => by
      by_cases hcb : c = b
      · subst hcb; rw [SH.upd_same] at hc ⊢; exact hc
      · rw [SH.upd_ne _ _ hcb] at hc ⊢; exact h c oc hc, SH.upd_same _ _ _, le_upd (h.none hb)⟩
  | I :: L, H0, H, ⟨H1, h1, h2⟩, b, hb, o => by
    obtain ⟨G, g1, g2⟩ := On.swap .blk I.2 (On.new (o := o) hb) h1
    have hb1 : H1 b = none := h1.le.none hb
    obtain ⟨H2, k1, k2, k3⟩ := Chain.temp h2 hb1 o
    refine ⟨H2, ⟨G, g1, ?_⟩, k2, k3⟩
    have : SH.le (H1.upd b o) G := fun c oc hc => by
      by_cases hcb : c = b
      · subst hcb; rw [SH.upd_same] at hc; cases hc; exact (On.blk.1 g2).2.2
      · rw [SH.upd_ne _ _ hcb] at hc; exact g2.le c oc hc
    exact Chain.above k1 this
/-- A slice with its array. -/
def SlI (E : TypeId) (size : Nat) (l : Sl) (cs : List Value) : Pr := fun H fp => cs.length = l.len * size ∧
  ((l.a = none ∧ l.len = 0 ∧ l.cap = 0 ∧ ∀ b, ¬ fp b) ∨ ∃ b pre, l.a = some (b, pre.length) ∧ l.len ≤ l.cap ∧ (∃ sz, H b = some ⟨pre ++ cs, E, false, sz⟩ ∧ pre.length + l.cap * size ≤ sz) ∧ ∀ c, fp c ↔ c = b)
theorem Loc.sl {E : TypeId} {size : Nat} {l : Sl} {cs : List Value} : Loc (SlI E size l cs) where
  loc := by
    rintro H H' fp ⟨h0, h⟩ hh
    refine ⟨h0, ?_⟩
    rcases h with h | ⟨b, pre, h1, h2, ⟨sz, h3, h4⟩, h5⟩
    · exact .inl h
    · exact .inr ⟨b, pre, h1, h2, ⟨sz, by rw [hh b ((h5 b).2 rfl)]; exact h3, h4⟩, h5⟩
  in_ := by
    rintro H fp b ⟨h0, h⟩ hb
    rcases h with ⟨_, _, _, h⟩ | ⟨b', pre, h1, h2, ⟨sz, h3, h4⟩, h5⟩
    · exact absurd hb (h b)
    · rw [(h5 b).1 hb, h3]; simp
theorem On.own {E : TypeId} {size : Nat} {l : Sl} {cs : List Value} {H0 H : SH} (h : On (SlI E size l cs) H0 H) : Own H0 H E size l cs := by
  obtain ⟨h1, fp, ⟨h2, h3⟩, h4⟩ := h
  refine ⟨h1, h2, ?_⟩
  rcases h3 with ⟨a, b, c, _⟩ | ⟨b, pre, k1, k2, ⟨sz, k3, k5⟩, k4⟩
  · exact .inl ⟨a, b, c⟩
  · exact .inr ⟨b, pre, k1, h4 b ((k4 b).2 rfl), k2, sz, k3, k5⟩
theorem Own.on {E : TypeId} {size : Nat} {l : Sl} {cs : List Value} {H0 H : SH} (h : Own H0 H E size l cs) : On (SlI E size l cs) H0 H := by
  rcases h.at_ with ⟨a, b, c⟩ | ⟨b, pre, k1, k2, k3, sz, k4, k5⟩
  · exact ⟨h.le, fun _ => False, ⟨h.len, .inl ⟨a, b, c, fun _ h => h⟩⟩, fun _ h => h.elim⟩
  · exact ⟨h.le, fun c => c = b, ⟨h.len, .inr ⟨b, pre, k1, k3, ⟨sz, k4, k5⟩, fun _ => .rfl⟩⟩, fun c hc => by rw [hc]; exact k2⟩
theorem On.row {E : TypeId} {size : Nat} {l : Sl} {cs : List Value} {H0 H : SH} (h : On (SlI E size l cs) H0 H) : H.row l.a cs := h.own.row
theorem On.len {E : TypeId} {size : Nat} {l : Sl} {cs : List Value} {H0 H : SH} (h : On (SlI E size l cs) H0 H) : cs.length = l.len * size := h.own.len
theorem On.nil (E : TypeId) (size : Nat) (H : SH) : On (SlI E size Sl.nil []) H H := (Own.nil H E size).on
theorem wrl_mid (pre cs : List Value) (k : Nat) (vs : List Value) (hk : k + vs.length ≤ cs.length) : wrl (pre ++ cs) (pre.length + k) vs = pre ++ wrl cs k vs := by
  unfold wrl
  rw [List.take_append, List.drop_append]
  simp only [List.append_assoc]
  congr 1
  · rw [List.take_of_length_le (by omega)]
  congr 1
  · congr 1; omega
  congr 1
  rw [List.drop_eq_nil_of_le (by omega), List.nil_append]
  congr 1; omega
/-- Some of its cells are written. -/
theorem On.put {E : TypeId} {size : Nat} {l : Sl} {cs : List Value} {H0 H : SH} (h : On (SlI E size l cs) H0 H) {k : Nat} {vs : List Value} (hk : k + vs.length ≤ cs.length) {p : Nat × Nat} (hp : l.a = some p) :
    SH.wrs H (p.1, p.2 + k) vs.length ∧ On (SlI E size l (wrl cs k vs)) H0 (SH.setl H (p.1, p.2 + k) vs) := by
  obtain ⟨h1, fp, ⟨h2, h3⟩, h4⟩ := h
  rcases h3 with ⟨a, b, c, _⟩ | ⟨b, pre, k1, k2, ⟨sz, k3, k5⟩, k4⟩
  · rw [a] at hp; cases hp
  · rw [k1] at hp; cases hp
    refine ⟨⟨_, k3, rfl, by simp; omega⟩, ?_⟩
    have : SH.setl H (b, pre.length + k) vs = H.upd b ⟨pre ++ wrl cs k vs, E, false, sz⟩ := by unfold SH.setl; simp only [k3, wrl_mid pre cs k vs hk]
    dsimp only
    rw [this]
    have hb := h4 b ((k4 b).2 rfl)
    refine ⟨h1.upd hb _, fp, ⟨?_, .inr ⟨b, pre, k1, k2, ⟨sz, SH.upd_same _ _ _, k5⟩, k4⟩⟩, h4⟩
    rw [← h2]; unfold wrl; simp; omega
end Go.Proofs.Ytpnbehgkbfhacaa.K
