/- A region that draws its order, with new memory made in it, and with a tail that waits for all: by what is known of each operation's value. -/
import Derived.Test.YtpnbehgkbfhacaaSatStr
import Derived.StillTail
set_option linter.unusedVariables false
set_option linter.unusedSimpArgs false
namespace Go.Proofs.Ytpnbehgkbfhacaa.K
open Go

/-- What is known of an operation's value: it, or that it stands for a new block (with a tag). -/
inductive AK where
  | val (v : Value)
  | fresh (tag : Nat) (mk : Nat → Nat → Value) (o : Nat → AO) (ok : Nat → Prop)
  | rel (p : SH → Value → (Nat → Nat) → SH → Prop) (mono : ∀ H v T T' H1 H2, p H v T H1 → SH.le H1 H2 → (∀ b, H1 b ≠ none → T' b = T b) → p H v T' H2)
def AK.is (H : SH) : AK → Value → (Nat → Nat) → SH → Prop
  | .val u, v, _, _ => v = u
  | .fresh tag mk o ok, v, T, H' => ∃ b c, v = mk b c ∧ H b = none ∧ H' b = some (o c) ∧ T b = tag ∧ ok c
  | .rel p _, v, T, H' => p H v T H'
/-- A block that was made in the region. -/
def NewB (H : SH) (T : Nat → Nat) (H' : SH) (tag b : Nat) (o : AO) (ok : Prop) : Prop := H b = none ∧ H' b = some o ∧ T b = tag ∧ ok
theorem NewB.mono {H H1 H2 : SH} {T T' : Nat → Nat} {tag b : Nat} {o : AO} {ok : Prop} (h : NewB H T H1 tag b o ok) (hle : SH.le H1 H2) (hT : ∀ b, H1 b ≠ none → T' b = T b) : NewB H T' H2 tag b o ok :=
  ⟨h.1, hle b _ h.2.1, by rw [hT b (by rw [h.2.1]; simp), h.2.2.1], h.2.2.2⟩
theorem NewB.beside {H H' : SH} {T : Nat → Nat} {tag b b' tag' : Nat} {o o' : AO} {ok : Prop} (h : NewB H T H' tag b o ok) (hb : H' b' = none) : NewB H (fun x => if x = b' then tag' else T x) (H'.upd b' o') tag b o ok := by
  have hne : b ≠ b' := by rintro rfl; have := h.2.1; rw [hb] at this; cases this
  exact ⟨h.1, by rw [SH.upd_ne _ _ hne]; exact h.2.1, (if_neg hne).trans h.2.2.1, h.2.2.2⟩
theorem NewB.ne {H H' : SH} {T : Nat → Nat} {tag b b' tag' : Nat} {o o' : AO} {ok ok' : Prop} (h : NewB H T H' tag b o ok) (k : NewB H T H' tag' b' o' ok') (ht : tag ≠ tag') : b ≠ b' := by
  rintro rfl; exact ht (h.2.2.1.symm.trans k.2.2.1)
theorem AK.is_mono {H : SH} {a : AK} {v : Value} {T T' : Nat → Nat} {H1 H2 : SH} (h : a.is H v T H1) (hle : SH.le H1 H2) (hT : ∀ b, H1 b ≠ none → T' b = T b) : a.is H v T' H2 := by
  cases a with
  | val u => exact h
  | fresh tag mk o ok =>
    obtain ⟨b, c, h1, h2, h3, h4, h5⟩ := h
    exact ⟨b, c, h1, h2, hle b _ h3, by rw [hT b (by rw [h3]; simp), h4], h5⟩
  | rel p mono => exact mono _ _ _ _ _ _ h hle hT

def dstAt (l : List Oper) (j : Nat) : Nat := ((l[j]?).bind (·.dst)).getD 0
def depB (l : List Oper) (i j : Nat) : Bool := match l[i]? with
  | some o => o.after.any fun e => Region.binds .any e && e.on == j
  | none => false
def outB (l : List Oper) (m d : Nat) : Bool := (List.range m).all fun j => (l[j]?).bind (·.dst) != some d
def listedN (n m : Nat) : Array Bool := Array.ofFn (n := n) fun i => decide (i.val < m)
/-- All ahead of the tail, but what is taken as soon as it is ready, is waited for. -/
def sinkE (l : List Oper) (n : Nat) (E : List Nat) : Bool :=
  (List.range n).all fun i => E.contains i || (List.range (n + 1)).any fun j => decide (i < j) && Region.waitsFor .any l.toArray j i && (decide (j = n) || !E.contains j)
theorem tail_waitsE {l : List Oper} {n : Nat} {E : List Nat} {listed : Array Bool} (hs : sinkE l n E = true) (hc : Region.chainB .any l.toArray n = true) (hn : n < l.toArray.size) (inv : HeadInv .any l.toArray n listed) :
    ∀ (d i : Nat), n - i = d → i < n → E.contains i = false → listed.getD i true = false → ∀ t, n ≤ t → t ∉ Region.ready .any l.toArray listed := by
  intro d
  induction d using Nat.strongRecOn with
  | _ d ih =>
    intro i hd hi hE hun t ht hr
    obtain ⟨_, ot, hot, hall⟩ := mem_ready.1 hr
    have htlt : t < l.toArray.size := (Array.getElem?_eq_some_iff.1 hot).1
    by_cases htn : t = n
    · subst htn
      have h1 := List.all_eq_true.1 hs i (List.mem_range.2 hi)
      rw [hE, Bool.false_or] at h1
      obtain ⟨j, hj, hj2⟩ := List.any_eq_true.1 h1
      simp only [Bool.and_eq_true, decide_eq_true_eq, Bool.or_eq_true, Bool.not_eq_true'] at hj2
      obtain ⟨oj, hoj, e, he, hb, hon⟩ := Region.waitsFor_spec hj2.1.2
      have hjle : j ≤ t := by have := List.mem_range.1 hj; omega
      by_cases hjt : j = t
      · subst hjt
        have : oj = ot := Option.some.inj (hoj.symm.trans hot)
        subst this
        have h2 := hall e he hb
        rw [hon, getD_both hun] at h2
        cases h2
      · cases hl : listed.getD j false with
        | true =>
          have h2 := inv.closed j oj hoj hl e he hb
          rw [hon, getD_both hun] at h2
          cases h2
        | false =>
          have hjs : j < listed.size := by rw [inv.size]; omega
          exact ih (t - j) (by omega) j rfl (by omega) (hj2.2.resolve_left hjt) (getD_in hjs hl) t (Nat.le_refl _) hr
    · have h1 := List.all_eq_true.1 hc t (List.mem_range.2 htlt)
      simp only [Bool.or_eq_true, decide_eq_true_eq] at h1
      rcases h1 with h1 | h1
      · omega
      · obtain ⟨o', ho', e, he, hb, hon⟩ := Region.waitsFor_spec h1
        have : o' = ot := Option.some.inj (ho'.symm.trans hot)
        subst this
        have h2 := hall e he hb
        rw [hon, getD_both (inv.tail (t - 1) (by omega) (by omega))] at h2
        cases h2
def drawB (l : List Oper) (m : Nat) (E : List Nat) : Bool :=
  decide (m ≤ l.length) &&
  ((List.range m).all fun i => match l[i]? with
    | some o => o.dst.isSome && (o.after.all fun e => !Region.binds .any e || decide (e.on < i)) && ((List.range m).all fun j => decide (j = i) || ((l[j]?).bind (·.dst)) != o.dst)
    | none => false) &&
  (decide (m = l.length) || (sinkE l m E && Region.chainB .any l.toArray m)) && Region.seqB .any l.toArray (l.length - m) m (listedN l.length m)

def stepQ (fr : Fr) (d : Nat) (R : Value → SH → Prop) : Post
  | .normal, fr', H' => ∃ v, fr' = fr.upd d v ∧ R v H'
  | _, _, _ => False

section
variable {P : Program} {n : Nat} {fr : Fr} {H : SH} {Q : Post}

def StepA (P : Program) (n : Nat) (fr : Fr) (H : SH) (l : List Oper) (as : List AK) (i : Nat) (o : Oper) (a : AK) : Prop :=
  ∀ (fr' : Fr) (T : Nat → Nat) (H' : SH), SH.le H H' → (∀ d, outB l as.length d = true → fr' d = fr d) → (∀ j, depB l i j = true → (as.getD j (.val undef)).is H (fr' (dstAt l j)) T H') →
    SOps P n l.toArray [o] fr' H' (stepQ fr' (dstAt l i) fun v H'' => ∃ T', SH.le H' H'' ∧ (∀ b, H' b ≠ none → T' b = T b) ∧ a.is H v T' H'')
def StepsA (P : Program) (n : Nat) (fr : Fr) (H : SH) (l : List Oper) (as : List AK) : List Oper → List AK → Nat → Prop
  | o :: rest, a :: more, i => StepA P n fr H l as i o a ∧ StepsA P n fr H l as rest more (i + 1)
  | _, [], _ => True
  | [], _ :: _, _ => False
theorem StepsA.get {l : List Oper} {as : List AK} (more : List AK) : ∀ (rest : List Oper) (i : Nat), StepsA P n fr H l as rest more i → ∀ (j : Nat) (o : Oper), j < more.length → rest[j]? = some o → StepA P n fr H l as (i + j) o (more.getD j (.val undef)) := by
  induction more with
  | nil => intro rest i h j o hj; simp at hj
  | cons a more ih =>
    intro rest i h j o hj ho
    cases rest with
    | nil => simp at ho
    | cons o' rest =>
      have h1 : StepA P n fr H l as i o' a := h.1
      have h2 : StepsA P n fr H l as rest more (i + 1) := h.2
      cases j with
      | zero =>
        rw [List.getElem?_cons_zero] at ho
        cases ho
        exact h1
      | succ j =>
        have := ih rest (i + 1) h2 j o (by simpa using hj) (by simpa using ho)
        rw [show i + (j + 1) = i + 1 + j by omega]
        exact this

theorem wp_of_step {o : Oper} {a : Act} {w : World} {K K' : Act → World → Prop} {Q Q' : Exit → Act → World → Prop} (h : o.wp P a w K Q') (hk : ∀ a w, K a w → K' a w) (hp : ∀ c a w, ¬ Q' (.panic c) a w) (ho : ¬ LetsOut Q') : o.wp P a w K' Q := by
  unfold Oper.wp at *
  generalize (execOp a.eval o).run P w = r at *
  cases r with
  | ok n w' =>
    cases n <;> simp only [Oper.upon] at h ⊢ <;>
      first
        | exact hk _ _ h
        | exact Calls.mono h (fun e w'' he => by
            cases e with
            | returned v => exact hk _ _ he
            | panicked c => exact absurd he (hp _ _ _)
            | outgrown => exact absurd he ho)
        | exact Rows.mono h (fun _ _ he => hk _ _ he)
  | halt x w' => cases x <;> simp only [Oper.upon] at h ⊢ <;> first | exact h | exact absurd h (hp _ _ _)

def cntU (listed : Array Bool) (m : Nat) : Nat := (List.range m).countP fun j => !listed.getD j true
theorem cntU_ge {listed : Array Bool} {i : Nat} : ∀ {m : Nat}, m ≤ i → cntU (listed.setIfInBounds i true) m = cntU listed m
  | 0, _ => rfl
  | m + 1, h => by
    unfold cntU at *
    rw [List.range_succ, List.countP_append, List.countP_append]
    have := cntU_ge (listed := listed) (i := i) (m := m) (by omega)
    unfold cntU at this
    rw [this]
    congr 1
    simp only [List.countP_singleton]
    rw [getD_set_ne true (by omega)]
theorem cntU_set {listed : Array Bool} {i : Nat} (hs : i < listed.size) (hi : listed.getD i true = false) : ∀ {m : Nat}, i < m → cntU (listed.setIfInBounds i true) m + 1 = cntU listed m
  | 0, h => by omega
  | m + 1, h => by
    unfold cntU
    rw [List.range_succ, List.countP_append, List.countP_append]
    by_cases him : i = m
    · subst him
      have := cntU_ge (listed := listed) (i := i) (m := i) (Nat.le_refl _)
      unfold cntU at this
      rw [this]
      simp only [List.countP_singleton]
      rw [hi]
      have : (listed.setIfInBounds i true).getD i true = true := by simp [hs]
      rw [this]; simp
    · have := cntU_set hs hi (m := m) (by omega)
      unfold cntU at this
      rw [← this]
      simp only [List.countP_singleton]
      rw [getD_set_ne true him]
      omega
theorem cntU_zero {listed : Array Bool} {m : Nat} (h : cntU listed m = 0) {j : Nat} (hj : j < m) : listed.getD j true = true := by
  unfold cntU at h
  rw [List.countP_eq_zero] at h
  simpa using h j (List.mem_range.2 hj)
theorem cntU_pos {listed : Array Bool} : ∀ {m : Nat}, 0 < cntU listed m → ∃ i, i < m ∧ listed.getD i true = false ∧ ∀ j, j < i → listed.getD j true = true
  | 0, h => by simp [cntU] at h
  | m + 1, h => by
    by_cases h0 : 0 < cntU listed m
    · obtain ⟨i, h1, h2, h3⟩ := cntU_pos h0; exact ⟨i, by omega, h2, h3⟩
    · have hz : cntU listed m = 0 := by omega
      refine ⟨m, by omega, ?_, fun j hj => cntU_zero hz hj⟩
      cases hm : listed.getD m true with
      | false => rfl
      | true =>
        exfalso
        unfold cntU at h hz
        rw [List.range_succ, List.countP_append, hz] at h
        simp [List.countP_singleton, hm] at h
        simp_all

theorem drawB_spec {l : List Oper} {m : Nat} {E : List Nat} (h : drawB l m E = true) : m ≤ l.length ∧ (∀ i, i < m → ∃ o d, l[i]? = some o ∧ o.dst = some d ∧ (∀ e ∈ o.after, Region.binds .any e = true → e.on < i) ∧ ∀ j, j < m → j ≠ i → (l[j]?).bind (·.dst) ≠ some d) ∧
    (m = l.length ∨ (sinkE l m E = true ∧ Region.chainB .any l.toArray m = true)) ∧ Region.seqB .any l.toArray (l.length - m) m (listedN l.length m) = true := by
  simp only [drawB, Bool.and_eq_true, decide_eq_true_eq, Bool.or_eq_true] at h
  obtain ⟨⟨⟨h1, h2⟩, h3⟩, h4⟩ := h
  refine ⟨h1, fun i hi => ?_, h3, h4⟩
  have := List.all_eq_true.1 h2 i (List.mem_range.2 hi)
  cases ho : l[i]? with
  | none => rw [ho] at this; simp at this
  | some o =>
    rw [ho] at this
    simp only [Bool.and_eq_true] at this
    obtain ⟨⟨k1, k2⟩, k3⟩ := this
    obtain ⟨d, hd⟩ := Option.isSome_iff_exists.1 k1
    refine ⟨o, d, rfl, hd, fun e he hb => ?_, fun j hj hne => ?_⟩
    · have := Array.all_eq_true_iff_forall_mem.1 k2 e he
      simpa [hb] using this
    · have := List.all_eq_true.1 k3 j (List.mem_range.2 hj)
      simp [hne] at this
      rw [hd] at this; exact this

/-- An operation that yields in every world, by what it waits for. -/
def PureE (P : Program) (n : Nat) (fr : Fr) (H : SH) (l : List Oper) (as : List AK) (i : Nat) (o : Oper) (v : Value) : Prop :=
  ∀ (fr' : Fr) (T : Nat → Nat) (H' : SH), SH.le H H' → (∀ d, outB l as.length d = true → fr' d = fr d) → (∀ j, depB l i j = true → (as.getD j (.val undef)).is H (fr' (dstAt l j)) T H') →
    wantF n l.toArray fr' o = true ∧ ∀ w, (execOp (evF n fr') o).run P w = .ok (.value v) w
def PureAll (P : Program) (n : Nat) (fr : Fr) (H : SH) (l : List Oper) (as : List AK) : List Nat → Prop
  | [] => True
  | i :: r => (∃ o v, l[i]? = some o ∧ as.getD i (.val undef) = .val v ∧ Region.free .any l.toArray (listedN l.length i) i = true ∧ PureE P n fr H l as i o v) ∧ PureAll P n fr H l as r
theorem PureAll.get {l : List Oper} {as : List AK} : ∀ {E : List Nat}, PureAll P n fr H l as E → ∀ i ∈ E, ∃ o v, l[i]? = some o ∧ as.getD i (.val undef) = .val v ∧ Region.free .any l.toArray (listedN l.length i) i = true ∧ PureE P n fr H l as i o v
  | i :: r, ⟨h, h2⟩, j, hj => by
    rcases List.mem_cons.1 hj with rfl | hj
    · exact h
    · exact PureAll.get h2 j hj
theorem free_more {l : List Oper} {i : Nat} {listed : Array Bool} (hlow : ∀ j, j < i → listed.getD j true = true) (h : Region.free .any l.toArray (listedN l.length i) i = true) : Region.free .any l.toArray listed i = true := by
  unfold Region.free at *
  split at h
  · cases h
  · rename_i oi ho
    simp only [List.all_eq_true, List.mem_range] at h ⊢
    intro j hj
    have h1 := h j hj
    have hj' : j < l.length := by simpa using hj
    by_cases hji : j < i
    · rw [hlow j hji]; simp
    · have e : (listedN l.length i).getD j true = false := by simp [listedN, hj', hji]
      rw [e, Bool.or_false] at h1
      rw [Bool.or_eq_true] at h1 ⊢
      rcases h1 with h1 | h1
      · left; rw [Bool.or_eq_true]; exact .inl h1
      · exact .inr h1
theorem drawA_go {l : List Oper} {as : List AK} {E : List Nat} (hnp : E = [] ∨ (Region.noSelect l.toArray = true ∧ ∀ c fr H, ¬ Q (.panic c) fr H)) (hEs : PureAll P n fr H l as E) (hB : drawB l as.length E = true) (steps : StepsA P n fr H l as l as 0)
    (tail : ∀ (fr' : Fr) (T : Nat → Nat) (H' : SH), SH.le H H' → (∀ d, outB l as.length d = true → fr' d = fr d) → (∀ j, j < as.length → (as.getD j (.val undef)).is H (fr' (dstAt l j)) T H') → SOps P n l.toArray (l.drop as.length) fr' H' Q)
    (w0 : World) (H0 : SH) : ∀ (f : Nat) (listed : Array Bool) (fr' : Fr) (T : Nat → Nat) (H' : SH) (w : World), cntU listed as.length = f → HeadInv .any l.toArray as.length listed → St w0 H0 H' w → SH.le H H' →
      (∀ d, outB l as.length d = true → fr' d = fr d) → (∀ j, j < as.length → listed.getD j false = true → (as.getD j (.val undef)).is H (fr' (dstAt l j)) T H') →
      wpAny P .any l.toArray (lift n w0 H0 Q) (f + (l.length - as.length)) listed (mkAct n fr') w := by
  obtain ⟨hm, hord, hend, hseq⟩ := drawB_spec hB
  intro f
  induction f with
  | zero =>
    intro listed fr' T H' w hf inv st hle hs hA
    have hsz : listed.size = l.length := by simpa using inv.size
    have hl : listed = listedN l.length as.length := by
      apply Array.ext
      · simp [listedN, hsz]
      · intro i h1 h2
        simp only [listedN, Array.getElem_ofFn]
        by_cases hi : i < as.length
        · have := cntU_zero hf hi
          simp [h1] at this
          simp [this, hi]
        · have := inv.tail i (by omega) (by simpa [← hsz] using h1)
          simp [h1] at this
          simp [this, hi]
    have hall : ∀ j, j < as.length → listed.getD j false = true := fun j hj => by
      have := cntU_zero hf hj
      have hj' : j < listed.size := by omega
      simp [hj'] at this ⊢; exact this
    have ht := tail fr' T H' hle hs (fun j hj => hA j hj (hall j hj)) w0 H0 w st
    rw [hl, Nat.zero_add]
    have hlen : (l.drop as.length).length = l.length - as.length := by simp
    have := wpAny_of_seq (md := .any) (Q' := lift n w0 H0 Q) (l.drop as.length) as.length (listedN l.length as.length) (mkAct n fr') w (fun j => by simp [List.getElem?_drop]) (by rw [hlen]; exact hseq) ht
    rwa [hlen] at this
  | succ f ih =>
    intro listed fr' T H' w hf inv st hle hs hA
    have hsz : listed.size = l.length := by simpa using inv.size
    obtain ⟨i0, hi0, hu0, hlow⟩ := cntU_pos (listed := listed) (m := as.length) (by omega)
    have hne : Region.ready .any l.toArray listed ≠ [] := by
      obtain ⟨o, d, ho, hd, hed, _⟩ := hord i0 hi0
      have : i0 ∈ Region.ready .any l.toArray listed := mem_ready.2 ⟨hu0, o, by simpa using ho, fun e he hb => by
        have h1 := hlow e.on (hed e he hb)
        have h2 : e.on < listed.size := by have := hed e he hb; omega
        simp [h2] at h1 ⊢; exact h1⟩
      intro h; rw [h] at this; cases this
    rw [show f + 1 + (l.length - as.length) = (f + (l.length - as.length)) + 1 by omega]
    cases hE0 : E.contains i0 with
    | true =>
      -- it is taken at once
      have hmem : i0 ∈ E := List.contains_iff_mem.1 hE0
      obtain ⟨hsel, hq⟩ := hnp.resolve_left (by rintro rfl; cases hmem)
      obtain ⟨o, v, ho, hav, hfree, hpure⟩ := hEs.get i0 hmem
      obtain ⟨o', d, ho', hd, hed, hdist⟩ := hord i0 hi0
      obtain rfl : o' = o := by rw [ho] at ho'; exact (Option.some.inj ho').symm
      have hdi : dstAt l i0 = d := by simp [dstAt, ho, hd]
      have hi : i0 ∈ Region.ready .any l.toArray listed := mem_ready.2 ⟨hu0, o', by simpa using ho, fun e he hb => by
        have h1 := hlow e.on (hed e he hb)
        have h2 : e.on < listed.size := by have := hed e he hb; omega
        simp [h2] at h1 ⊢; exact h1⟩
      obtain ⟨hg, hx⟩ := hpure fr' T H' hle hs (fun j hj => by
        unfold depB at hj
        rw [ho] at hj
        obtain ⟨e, he, hb⟩ := Array.any_eq_true'.1 hj
        simp only [Bool.and_eq_true, beq_iff_eq] at hb
        have hlt := hed e he hb.1
        have h1 := hlow e.on hlt
        have h2 : e.on < listed.size := by omega
        rw [hb.2] at hlt h1 h2
        exact hA j (by omega) (by simp [h2] at h1 ⊢; exact h1))
      have his : i0 < listed.size := by omega
      refine wpAny_take (oi := o') (v := v) (by simpa using ho) hsel (free_more hlow hfree) (by simpa using hi) ?_ (.inl ⟨by rw [want_mkAct]; exact hg, fun w => by rw [eval_mkAct]; exact hx w⟩) ?_
      · rintro c a w' ⟨fr2, H2, _, _, q⟩
        exact absurd q (hq _ _ _)
      · rw [hd, put_mkAct]
        refine ih _ _ T H' w (by have := cntU_set his hu0 hi0; omega) (inv.set hi hi0) st hle (fun d2 hd2 => ?_) (fun j hj hl => ?_)
        · have hne' : d2 ≠ d := by
            rintro rfl
            have := List.all_eq_true.1 hd2 i0 (List.mem_range.2 hi0)
            simp [ho, hd] at this
          have : (fr'.upd d v) d2 = fr' d2 := by
            unfold Fr.upd
            cases hb : Nat.beq d2 d with
            | false => rfl
            | true => exact absurd (Nat.eq_of_beq_eq_true hb) hne'
          rw [this]; exact hs d2 hd2
        · by_cases hji : j = i0
          · subst hji
            have : (fr'.upd d v) (dstAt l j) = v := by rw [hdi]; unfold Fr.upd; rw [Nat.beq_refl]; rfl
            rw [this, hav]; rfl
          · rw [getD_set_ne false (Ne.symm hji)] at hl
            have hne' : dstAt l j ≠ d := by
              obtain ⟨oj, dj, hoj, hdj, _, _⟩ := hord j hj
              have := hdist j hj hji
              rw [hoj] at this
              simp only [Option.bind_some, hdj] at this
              simp only [dstAt, hoj, Option.bind_some, hdj, Option.getD_some]
              intro h; exact this (by rw [h])
            have : (fr'.upd d v) (dstAt l j) = fr' (dstAt l j) := by
              unfold Fr.upd
              cases hb : Nat.beq (dstAt l j) d with
              | false => rfl
              | true => exact absurd (Nat.eq_of_beq_eq_true hb) hne'
            rw [this]
            exact hA j hj hl
    | false =>
    refine ⟨fun h => absurd h hne, fun i hi => ?_⟩
    obtain ⟨hun, oi, hoi, hall⟩ := mem_ready.1 hi
    have hoi' : l[i]? = some oi := by simpa using hoi
    have hil : i < l.length := (List.getElem?_eq_some_iff.1 hoi').1
    have him : i < as.length := by
      rcases Nat.lt_or_ge i as.length with h | h
      · exact h
      · rcases hend with he | ⟨h1, h2⟩
        · omega
        · exact absurd hi (tail_waitsE h1 h2 (by simp; omega) inv _ i0 rfl hi0 hE0 hu0 i h)
    obtain ⟨o, d, ho, hd, hed, hdist⟩ := hord i him
    obtain rfl : o = oi := by rw [ho] at hoi'; exact Option.some.inj hoi'
    have hdi : dstAt l i = d := by simp [dstAt, ho, hd]
    have hstep := StepsA.get as l 0 steps i o him ho
    rw [Nat.zero_add] at hstep
    have h1 := hstep fr' T H' hle hs (fun j hj => by
      unfold depB at hj
      rw [ho] at hj
      obtain ⟨e, he, hb⟩ := Array.any_eq_true'.1 hj
      simp only [Bool.and_eq_true, beq_iff_eq] at hb
      have hlt := hed e he hb.1
      have := hall e he hb.1
      rw [hb.2] at hlt this
      exact hA j (by omega) this) w0 H0 w st
    have key : ∀ (a' : Act) (w' : World), lift n w0 H0 (stepQ fr' (dstAt l i) fun v H'' => ∃ T', SH.le H' H'' ∧ (∀ b, H' b ≠ none → T' b = T b) ∧ (as.getD i (.val undef)).is H v T' H'') .normal a' w' →
        wpAny P .any l.toArray (lift n w0 H0 Q) (f + (l.length - as.length)) (listed.setIfInBounds i true) a' w' := by
      rintro a' w' ⟨fr'', H'', rfl, st'', v, rfl, T', hle', hT', ha⟩
      have his : i < listed.size := by omega
      refine ih _ _ T' H'' w' (by have := cntU_set his hun him; omega) (inv.set hi him) st'' (hle.trans hle') (fun d' hd' => ?_) (fun j hj hl => ?_)
      · have hne' : d' ≠ d := by
          rintro rfl
          have := List.all_eq_true.1 hd' i (List.mem_range.2 him)
          simp [ho, hd] at this
        have : (fr'.upd (dstAt l i) v) d' = fr' d' := by
          unfold Fr.upd; rw [hdi]
          cases hb : Nat.beq d' d with
          | false => rfl
          | true => exact absurd (Nat.eq_of_beq_eq_true hb) hne'
        rw [this]; exact hs d' hd'
      · by_cases hji : j = i
        · subst hji
          have : (fr'.upd (dstAt l j) v) (dstAt l j) = v := by unfold Fr.upd; rw [Nat.beq_refl]; rfl
          rw [this]; exact ha
        · rw [getD_set_ne false (Ne.symm hji)] at hl
          have hne' : dstAt l j ≠ d := by
            obtain ⟨oj, dj, hoj, hdj, _, _⟩ := hord j hj
            have := hdist j hj hji
            rw [hoj] at this
            simp only [Option.bind_some, hdj] at this
            simp only [dstAt, hoj, Option.bind_some, hdj, Option.getD_some]
            intro h; exact this (by rw [h])
          have : (fr'.upd (dstAt l i) v) (dstAt l j) = fr' (dstAt l j) := by
            unfold Fr.upd; rw [hdi]
            cases hb : Nat.beq (dstAt l j) d with
            | false => rfl
            | true => exact absurd (Nat.eq_of_beq_eq_true hb) hne'
          rw [this]
          exact AK.is_mono (hA j hj hl) hle' hT'
    unfold wpOp
    simp only [hoi]
    unfold wpList at h1
    split
    · rename_i hw
      rw [if_pos hw] at h1
      rcases h1 with h1 | h1
      · refine .inl (wp_of_step h1 key ?_ ?_)
        · rintro c a' w' ⟨_, _, _, _, q⟩; exact q
        · rintro ⟨a', w', _, _, _, _, q⟩; exact q
      · obtain ⟨_, a', w', _, _, _, _, q⟩ := h1; exact q.elim
    · rename_i hw
      rw [if_neg hw] at h1
      exact key _ _ h1

/-- **The region**: each operation's value is known of what it waits for; behind all, the tail in the text's order. -/
theorem SW.drawA {id : Nat} {l : List Oper} (as : List AK) (hm : P.follows .mixedOrders = true) (hB : drawB l as.length [] = true) (steps : StepsA P n fr H l as l as 0)
    (tail : ∀ (fr' : Fr) (T : Nat → Nat) (H' : SH), SH.le H H' → (∀ d, outB l as.length d = true → fr' d = fr d) → (∀ j, j < as.length → (as.getD j (.val undef)).is H (fr' (dstAt l j)) T H') → SOps P n l.toArray (l.drop as.length) fr' H' Q) :
    SW P n (.region id l.toArray true) fr H Q := fun w0 H0 w st => by
  have hml := (drawB_spec hB).1
  refine wp_region_any hm ?_
  have hc : cntU (Array.replicate l.length false) as.length = as.length := by
    unfold cntU
    rw [List.countP_eq_length.2]
    · simp
    · intro j hj
      have : j < l.length := by have := List.mem_range.1 hj; omega
      simp [this]
  have := drawA_go (.inl rfl) (E := []) trivial hB steps tail w0 H0 as.length (Array.replicate l.length false) fr (fun _ => 0) H { w with drawn := w.drawn + 1 } hc
    ⟨by simp, fun j oj _ hl => (by rw [getD_replicate_false] at hl; cases hl), fun t _ ht => getD_in (by simpa using ht) (getD_replicate_false _ _)⟩
    ⟨st.os, st.tape, st.output, st.size, st.keep, st.sat, st.own⟩ (.refl H) (fun _ _ => rfl) (fun j _ hl => by rw [getD_replicate_false] at hl; cases hl)
  rw [show as.length + (l.length - as.length) = l.toArray.size by simp; omega] at this
  simpa using this

/-- What doesn't panic. -/
def np (Q : Post) : Post
  | .panic _, _, _ => False
  | e, fr, H => Q e fr H
theorem np_of {e : Exit} {fr : Fr} {H : SH} (h : np Q e fr H) : Q e fr H := by cases e <;> first | exact h | exact h.elim
/-- **The region**, with some operations taken as soon as they are ready. -/
theorem SW.drawE {id : Nat} {l : List Oper} (E : List Nat) (as : List AK) (hm : P.follows .mixedOrders = true) (hB : drawB l as.length E = true) (hsel : Region.noSelect l.toArray = true)
    (hEs : PureAll P n fr H l as E) (steps : StepsA P n fr H l as l as 0)
    (tail : ∀ (fr' : Fr) (T : Nat → Nat) (H' : SH), SH.le H H' → (∀ d, outB l as.length d = true → fr' d = fr d) → (∀ j, j < as.length → (as.getD j (.val undef)).is H (fr' (dstAt l j)) T H') → SOps P n l.toArray (l.drop as.length) fr' H' (np Q)) :
    SW P n (.region id l.toArray true) fr H Q := SW.mono (Q := np Q) (fun w0 H0 w st => by
  have hml := (drawB_spec hB).1
  refine wp_region_any hm ?_
  have hc : cntU (Array.replicate l.length false) as.length = as.length := by
    unfold cntU
    rw [List.countP_eq_length.2]
    · simp
    · intro j hj
      have : j < l.length := by have := List.mem_range.1 hj; omega
      simp [this]
  have := drawA_go (Q := np Q) (.inr ⟨hsel, fun _ _ _ q => q⟩) hEs hB steps tail w0 H0 as.length (Array.replicate l.length false) fr (fun _ => 0) H { w with drawn := w.drawn + 1 } hc
    ⟨by simp, fun j oj _ hl => (by rw [getD_replicate_false] at hl; cases hl), fun t _ ht => getD_in (by simpa using ht) (getD_replicate_false _ _)⟩
    ⟨st.os, st.tape, st.output, st.size, st.keep, st.sat, st.own⟩ (.refl H) (fun _ _ => rfl) (fun j _ hl => by rw [getD_replicate_false] at hl; cases hl)
  rw [show as.length + (l.length - as.length) = l.toArray.size by simp; omega] at this
  simpa using this) fun _ _ _ h => np_of h

/-! ### the steps -/
variable {ops : Array Oper} {o : Oper} {fr' : Fr} {T : Nat → Nat} {H' : SH} {d : Nat}
theorem Sat.le {w : World} {H H' : SH} (h : Sat H' w) (hle : SH.le H H') : Sat H w := fun b o hb => h b o (hle b o hb)
theorem SA.rd {v : Value} (hle : SH.le H H') (hd : o.dst = some d) (hg : wantF n ops fr' o = true) (h : ∀ w, Sat H w → (execOp (evF n fr') o).run P w = .ok (.value v) w) :
    SOps P n ops [o] fr' H' (stepQ fr' d fun u H'' => ∃ T', SH.le H' H'' ∧ (∀ b, H' b ≠ none → T' b = T b) ∧ (AK.val v).is H u T' H'') :=
  SOps.rd hd hg (fun w hw => h w (hw.le hle)) (SOps.nil ⟨v, rfl, T, .refl _, fun _ _ => rfl, rfl⟩)
theorem SA.val {v : Value} (hd : o.dst = some d) (hg : wantF n ops fr' o = true) (h : ∀ w, (execOp (evF n fr') o).run P w = .ok (.value v) w) :
    SOps P n ops [o] fr' H' (stepQ fr' d fun u H'' => ∃ T', SH.le H' H'' ∧ (∀ b, H' b ≠ none → T' b = T b) ∧ (AK.val v).is H u T' H'') :=
  SOps.val hd hg h (SOps.nil ⟨v, rfl, T, .refl _, fun _ _ => rfl, rfl⟩)
theorem SA.off (hd : o.dst = some d) (hg : wantF n ops fr' o = false) :
    SOps P n ops [o] fr' H' (stepQ fr' d fun u H'' => ∃ T', SH.le H' H'' ∧ (∀ b, H' b ≠ none → T' b = T b) ∧ (AK.val undef).is H u T' H'') :=
  SOps.off hd hg (SOps.nil ⟨undef, rfl, T, .refl _, fun _ _ => rfl, rfl⟩)
theorem SA.rdH {v : Value} {Hc : SH} (hle : SH.le Hc H') (hd : o.dst = some d) (hg : wantF n ops fr' o = true) (h : ∀ w, Sat Hc w → (execOp (evF n fr') o).run P w = .ok (.value v) w) :
    SOps P n ops [o] fr' H' (stepQ fr' d fun u H'' => ∃ T', SH.le H' H'' ∧ (∀ b, H' b ≠ none → T' b = T b) ∧ (AK.val v).is H u T' H'') :=
  SOps.rd hd hg (fun w hw => h w (hw.le hle)) (SOps.nil ⟨v, rfl, T, .refl _, fun _ _ => rfl, rfl⟩)
theorem cells_len {cs : List Value} {bs : List UInt8} (h : cs = byteCells bs) : cs.length = bs.length := by rw [h]; simp [byteCells]
theorem row_updD {H : SH} {b : Nat} {o : AO} {cs : List Value} (h : o.cells = cs) : (H.upd b o).row (some (b, 0)) cs :=
  .inr ⟨(b, 0), o, rfl, SH.upd_same _ _ _, fun j u hu => by rw [h]; simpa using hu⟩
/-- A move of what is new. -/
theorem SA.same {v : Value} {a : AK} (hd : o.dst = some d) (hg : wantF n ops fr' o = true) (h : ∀ w, (execOp (evF n fr') o).run P w = .ok (.value v) w) (ha : a.is H v T H') :
    SOps P n ops [o] fr' H' (stepQ fr' d fun u H'' => ∃ T', SH.le H' H'' ∧ (∀ b, H' b ≠ none → T' b = T b) ∧ a.is H u T' H'') :=
  SOps.val hd hg h (SOps.nil ⟨v, rfl, T, .refl _, fun _ _ => rfl, ha⟩)
theorem SCalls.frame {f : FuncId} {args : Array Value} {v : Value} {Hc : SH} (h : SCalls P f args Hc fun u H'' => u = v ∧ SH.le Hc H'') (hle : SH.le Hc H') : SCalls P f args H' fun u H'' => u = v ∧ H'' = H' := fun w hw => by
  refine (h w (hw.le hle)).mono ?_
  rintro e w' ⟨u, H2, rfl, st, rfl, h2⟩
  refine ⟨u, H', rfl, ⟨st.os, st.tape, st.output, st.size, fun b hb hr => st.keep b hb fun o ho => hr o (hle b o ho), fun b o hb => ?_, fun b o hb => .inl ⟨o, hb, id⟩⟩, rfl, rfl⟩
  cases hc : Hc b with
  | some o' =>
    have := hle b o' hc
    rw [hb] at this; cases this
    exact st.sat b o (h2 b o hc)
  | none =>
    rw [st.keep b (hw.lt hb) fun o ho => by rw [hc] at ho; cases ho]
    exact hw b o hb
/-- A call makes new memory only: what it hands on stays so beside more. -/
theorem SCalls.grow {f : FuncId} {args : Array Value} {R : Value → SH → Prop} {Hc : SH} (h : SCalls P f args Hc fun u H2 => SH.le Hc H2 ∧ R u H2) (hle : SH.le Hc H') : SCalls P f args H' fun u H'' => SH.le H' H'' ∧ ∃ H2, SH.le H2 H'' ∧ R u H2 := fun w hw => by
  refine (h w (hw.le hle)).mono ?_
  rintro e w' ⟨u, H2, rfl, st, h2, r⟩
  have hs : ∀ b o, H' b = some o → SatO o w'.heap[b]? := fun b o hb => by
    cases hc : Hc b with
    | some o' =>
      have := hle b o' hc
      rw [hb] at this; cases this
      exact st.sat b o (h2 b o hc)
    | none =>
      rw [st.keep b (hw.lt hb) fun o ho => by rw [hc] at ho; cases ho]
      exact hw b o hb
  refine ⟨u, fun b => match H' b with | some o => some o | none => H2 b, rfl, ⟨st.os, st.tape, st.output, st.size, fun b hb hr => st.keep b hb fun o ho => hr o (hle b o ho), fun b o hb => ?_, fun b o hb => ?_⟩, fun b o hb => by simp only [hb], H2, fun b o hb => ?_, r⟩
  · cases hc : H' b with
    | some o' => simp only [hc] at hb; cases hb; exact hs b _ hc
    | none => simp only [hc] at hb; exact st.sat b o hb
  · cases hc : H' b with
    | some o' => simp only [hc] at hb; cases hb; exact .inl ⟨_, rfl, id⟩
    | none =>
      simp only [hc] at hb
      rcases st.own b o hb with ⟨o0, h0, _⟩ | h1
      · have := hle b o0 h0; rw [hc] at this; cases this
      · exact .inr h1
  · cases hc : H' b with
    | none => simp only [hc]; exact hb
    | some o' =>
      simp only [hc]
      rcases st.own b o hb with ⟨o0, h0, _⟩ | h1
      · have k1 := hle b o0 h0; rw [hc] at k1; cases k1
        have k2 := h2 b o' h0; rw [hb] at k2; exact k2.symm
      · have := hw.lt hc; omega
theorem SA.enterR {g : FuncId} {args : Array Value} {Hc : SH} {Rr : Value → SH → Prop} {p : SH → Value → (Nat → Nat) → SH → Prop} {mono : ∀ H v T T' H1 H2, p H v T H1 → SH.le H1 H2 → (∀ b, H1 b ≠ none → T' b = T b) → p H v T' H2} (hle : SH.le Hc H') (hd : o.dst = some d) (hg : wantF n ops fr' o = true) (hx : ∀ w, (execOp (evF n fr') o).run P w = .ok (.enter g args) w)
    (hc : SCalls P g args Hc fun u H2 => SH.le Hc H2 ∧ Rr u H2) (hp : ∀ u H2 H'' T, Rr u H2 → SH.le H2 H'' → p H u T H'') :
    SOps P n ops [o] fr' H' (stepQ fr' d fun u H'' => ∃ T', SH.le H' H'' ∧ (∀ b, H' b ≠ none → T' b = T b) ∧ (AK.rel p mono).is H u T' H'') :=
  SOps.enter hd hg hx (hc.grow hle) fun u H'' ⟨h1, H2, h2, r⟩ => SOps.nil ⟨u, rfl, T, h1, fun _ _ => rfl, hp u H2 H'' T r h2⟩
theorem SA.enter {g : FuncId} {args : Array Value} {v : Value} {Hc : SH} (hle : SH.le Hc H') (hd : o.dst = some d) (hg : wantF n ops fr' o = true) (hx : ∀ w, (execOp (evF n fr') o).run P w = .ok (.enter g args) w)
    (hc : SCalls P g args Hc fun u H'' => u = v ∧ SH.le Hc H'') :
    SOps P n ops [o] fr' H' (stepQ fr' d fun u H'' => ∃ T', SH.le H' H'' ∧ (∀ b, H' b ≠ none → T' b = T b) ∧ (AK.val v).is H u T' H'') :=
  SOps.enter hd hg hx (hc.frame hle) fun u H'' ⟨e1, e2⟩ => by
    subst e1; subst e2; exact SOps.nil ⟨u, rfl, T, .refl _, fun _ _ => rfl, rfl⟩
theorem SH.le.upd_in {H H' : SH} (h : SH.le H H') {b : Nat} {o : AO} (hb : H' b = some o) : SH.le (H.upd b o) H' := fun c oc hc => by
  by_cases hcb : c = b
  · subst hcb; rw [SH.upd_same] at hc; cases hc; exact hb
  · rw [SH.upd_ne _ _ hcb] at hc; exact h c oc hc
/-- Something new: told of by a rule for the text's order. -/
theorem SA.fresh {tag : Nat} {mk : Nat → Nat → Value} {ao : Nat → AO} {ok : Nat → Prop} (hle : SH.le H H')
    (h : ∀ {Q' : Post}, (∀ b c, H' b = none → ok c → SOps P n ops [] (fr'.upd d (mk b c)) (H'.upd b { ao c with ro := false }) Q') → SOps P n ops [o] fr' H' Q') :
    SOps P n ops [o] fr' H' (stepQ fr' d fun u H'' => ∃ T', SH.le H' H'' ∧ (∀ b, H' b ≠ none → T' b = T b) ∧ (AK.fresh tag mk ao ok).is H u T' H'') := by
  refine h fun b c hb hc => ?_
  have hH : H b = none := by
    cases h0 : H b with
    | none => rfl
    | some o => rw [hle b o h0] at hb; cases hb
  have hle' : SH.le H' (H'.upd b (ao c)) := fun c' oc hc' => by
    rw [SH.upd_ne _ _ (by rintro rfl; rw [hb] at hc'; cases hc')]; exact hc'
  have fin : Post := stepQ fr' d fun u H'' => ∃ T', SH.le H' H'' ∧ (∀ b, H' b ≠ none → T' b = T b) ∧ (AK.fresh tag mk ao ok).is H u T' H''
  have post : ∃ v, fr'.upd d (mk b c) = fr'.upd d v ∧ ∃ T' : Nat → Nat, SH.le H' (H'.upd b (ao c)) ∧ (∀ b', H' b' ≠ none → T' b' = T b') ∧ (AK.fresh tag mk ao ok).is H v T' (H'.upd b (ao c)) :=
    ⟨mk b c, rfl, fun b' => if b' = b then tag else T b', hle', fun b' hb' => if_neg (by rintro rfl; exact hb' hb), b, c, rfl, hH, SH.upd_same _ _ _, if_pos rfl, hc⟩
  intro w0 H0 w st
  refine SOps.nil (fr := fr'.upd d (mk b c)) (H := H'.upd b (ao c)) post w0 H0 w ?_
  refine { st with sat := fun b' o' hb' => ?_, own := fun b' o' hb' => ?_ }
  · by_cases hbb : b' = b
    · subst hbb
      rw [SH.upd_same] at hb'; cases hb'
      obtain ⟨hmn, rest, fz, h1, h2, h3⟩ := (st.sat b' _ (SH.upd_same _ _ _)).got (.inl rfl)
      exact SatO.mk hmn ⟨rest, fz, h1, h2, fun _ => h3 rfl⟩
    · rw [SH.upd_ne _ _ hbb] at hb'
      exact st.sat b' o' (by rw [SH.upd_ne _ _ hbb]; exact hb')
  · by_cases hbb : b' = b
    · subst hbb
      rcases st.own b' _ (SH.upd_same _ _ _) with ⟨o0, h0, h1⟩ | h1
      · exact .inl ⟨o0, h0, fun _ => h1 (by simp [AO.fix])⟩
      · exact .inr h1
    · rw [SH.upd_ne _ _ hbb] at hb'
      exact st.own b' o' (by rw [SH.upd_ne _ _ hbb]; exact hb')
/-- Something new that leads to other new blocks. -/
theorem SA.freshR {tag : Nat} {mk : Nat → Nat → Value} {ao : Nat → AO} {ok : Nat → Prop} {p : SH → Value → (Nat → Nat) → SH → Prop} {mono : ∀ H v T T' H1 H2, p H v T H1 → SH.le H1 H2 → (∀ b, H1 b ≠ none → T' b = T b) → p H v T' H2} (hle : SH.le H H')
    (hp : ∀ b c, H b = none → H' b = none → ok c → p H (mk b c) (fun x => if x = b then tag else T x) (H'.upd b (ao c)))
    (h : ∀ {Q' : Post}, (∀ b c, H' b = none → ok c → SOps P n ops [] (fr'.upd d (mk b c)) (H'.upd b { ao c with ro := false }) Q') → SOps P n ops [o] fr' H' Q') :
    SOps P n ops [o] fr' H' (stepQ fr' d fun u H'' => ∃ T', SH.le H' H'' ∧ (∀ b, H' b ≠ none → T' b = T b) ∧ (AK.rel p mono).is H u T' H'') := by
  refine h fun b c hb hc => ?_
  have hH : H b = none := by
    cases h0 : H b with
    | none => rfl
    | some o => rw [hle b o h0] at hb; cases hb
  have hle' : SH.le H' (H'.upd b (ao c)) := fun c' oc hc' => by
    rw [SH.upd_ne _ _ (by rintro rfl; rw [hb] at hc'; cases hc')]; exact hc'
  have post : ∃ v, fr'.upd d (mk b c) = fr'.upd d v ∧ ∃ T' : Nat → Nat, SH.le H' (H'.upd b (ao c)) ∧ (∀ b', H' b' ≠ none → T' b' = T b') ∧ (AK.rel p mono).is H v T' (H'.upd b (ao c)) :=
    ⟨mk b c, rfl, fun b' => if b' = b then tag else T b', hle', fun b' hb' => if_neg (by rintro rfl; exact hb' hb), hp b c hH hb hc⟩
  intro w0 H0 w st
  refine SOps.nil (fr := fr'.upd d (mk b c)) (H := H'.upd b (ao c)) post w0 H0 w ?_
  refine { st with sat := fun b' o' hb' => ?_, own := fun b' o' hb' => ?_ }
  · by_cases hbb : b' = b
    · subst hbb
      rw [SH.upd_same] at hb'; cases hb'
      obtain ⟨hmn, rest, fz, h1, h2, h3⟩ := (st.sat b' _ (SH.upd_same _ _ _)).got (.inl rfl)
      exact SatO.mk hmn ⟨rest, fz, h1, h2, fun _ => h3 rfl⟩
    · rw [SH.upd_ne _ _ hbb] at hb'
      exact st.sat b' o' (by rw [SH.upd_ne _ _ hbb]; exact hb')
  · by_cases hbb : b' = b
    · subst hbb
      rcases st.own b' _ (SH.upd_same _ _ _) with ⟨o0, h0, h1⟩ | h1
      · exact .inl ⟨o0, h0, fun _ => h1 (by simp [AO.fix])⟩
      · exact .inr h1
    · rw [SH.upd_ne _ _ hbb] at hb'
      exact st.own b' o' (by rw [SH.upd_ne _ _ hbb]; exact hb')
end
end Go.Proofs.Ytpnbehgkbfhacaa.K
