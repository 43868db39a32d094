/- A region that draws its order, with new memory made in it, and with a tail that waits for all: by what is known of each operation's value. -/
import Derived.Test.YtpnbehgkbfhacaaDoorSatStr
import Derived.StillTail
set_option linter.unusedVariables false
set_option linter.unusedSimpArgs false
namespace Go.Proofs.YtpnbehgkbfhacaaDoor.K
open Go

/-- What is known of an operation's value: it, or that it stands for a new block (with a tag). -/
inductive AK where
  | val (v : Value)
  | fresh (tag : Nat) (mk : Nat → Nat → Value) (o : Nat → AO) (ok : Nat → Prop)
def AK.is (H : SH) : AK → Value → (Nat → Nat) → SH → Prop
  | .val u, v, _, _ => v = u
  | .fresh tag mk o ok, v, T, H' => ∃ b c, v = mk b c ∧ H b = none ∧ H' b = some (o c) ∧ T b = tag ∧ ok c
theorem AK.is_mono {H : SH} {a : AK} {v : Value} {T T' : Nat → Nat} {H1 H2 : SH} (h : a.is H v T H1) (hle : SH.le H1 H2) (hT : ∀ b, H1 b ≠ none → T' b = T b) : a.is H v T' H2 := by
  cases a with
  | val u => exact h
  | fresh tag mk o ok =>
    obtain ⟨b, c, h1, h2, h3, h4, h5⟩ := h
    exact ⟨b, c, h1, h2, hle b _ h3, by rw [hT b (by rw [h3]; simp), h4], h5⟩

def dstAt (l : List Oper) (j : Nat) : Nat := ((l[j]?).bind (·.dst)).getD 0
def depB (l : List Oper) (i j : Nat) : Bool := match l[i]? with
  | some o => o.after.any fun e => Region.binds .any e && e.on == j
  | none => false
def outB (l : List Oper) (m d : Nat) : Bool := (List.range m).all fun j => (l[j]?).bind (·.dst) != some d
def listedN (n m : Nat) : Array Bool := Array.ofFn (n := n) fun i => decide (i.val < m)
def drawB (l : List Oper) (m : Nat) : Bool :=
  decide (m ≤ l.length) &&
  ((List.range m).all fun i => match l[i]? with
    | some o => o.dst.isSome && (o.after.all fun e => !Region.binds .any e || decide (e.on < i)) && ((List.range m).all fun j => decide (j = i) || ((l[j]?).bind (·.dst)) != o.dst)
    | none => false) &&
  (decide (m = l.length) || (Region.sinkB .any l.toArray m && Region.chainB .any l.toArray m)) && Region.seqB .any l.toArray (l.length - m) m (listedN l.length m)

def stepQ (fr : Fr) (d : Nat) (R : Value → SH → Prop) : Post
  | .normal, fr', H' => ∃ v, fr' = fr.upd d v ∧ R v H'
  | _, _, _ => False

section
variable {P : Program} {n : Nat} {fr : Fr} {H : SH} {Q : Post}

def StepA (P : Program) (n : Nat) (fr : Fr) (H : SH) (l : List Oper) (as : List AK) (i : Nat) (o : Oper) (a : AK) : Prop :=
  ∀ (fr' : Fr) (T : Nat → Nat) (H' : SH), SH.le H H' → (∀ d, outB l as.length d = true → fr' d = fr d) → (∀ j, depB l i j = true → (as.getD j (.val undef)).is H (fr' (dstAt l j)) T H') →
    SOps P n l.toArray [o] fr' H' (stepQ fr' (dstAt l i) fun v H'' => ∃ T', SH.le H' H'' ∧ (∀ b, H' b ≠ none → T' b = T b) ∧ a.is H v T' H'')
def StepsA (P : Program) (n : Nat) (fr : Fr) (H : SH) (l : List Oper) (as : List AK) : List Oper → List AK → Nat → Prop
  | o :: rest, a :: more, i => StepA P n fr H l as i o a ∧ StepsA P n fr H l as rest more (i + 1)
  | _, [], _ => True
  | [], _ :: _, _ => False
theorem StepsA.get {l : List Oper} {as : List AK} (more : List AK) : ∀ (rest : List Oper) (i : Nat), StepsA P n fr H l as rest more i → ∀ (j : Nat) (o : Oper), j < more.length → rest[j]? = some o → StepA P n fr H l as (i + j) o (more.getD j (.val undef)) := by
  induction more with
  | nil => intro rest i h j o hj; simp at hj
  | cons a more ih =>
    intro rest i h j o hj ho
    cases rest with
    | nil => simp at ho
    | cons o' rest =>
      have h1 : StepA P n fr H l as i o' a := h.1
      have h2 : StepsA P n fr H l as rest more (i + 1) := h.2
      cases j with
      | zero =>
        rw [List.getElem?_cons_zero] at ho
        cases ho
        exact h1
      | succ j =>
        have := ih rest (i + 1) h2 j o (by simpa using hj) (by simpa using ho)
        rw [show i + (j + 1) = i + 1 + j by omega]
        exact this

theorem wp_of_step {o : Oper} {a : Act} {w : World} {K K' : Act → World → Prop} {Q Q' : Exit → Act → World → Prop} (h : o.wp P a w K Q') (hk : ∀ a w, K a w → K' a w) (hp : ∀ c a w, ¬ Q' (.panic c) a w) (ho : ¬ LetsOut Q') : o.wp P a w K' Q := by
  unfold Oper.wp at *
  generalize (execOp a.eval o).run P w = r at *
  cases r with
  | ok n w' =>
    cases n <;> simp only [Oper.upon] at h ⊢ <;>
      first
        | exact hk _ _ h
        | exact Calls.mono h (fun e w'' he => by
            cases e with
            | returned v => exact hk _ _ he
            | panicked c => exact absurd he (hp _ _ _)
            | outgrown => exact absurd he ho)
        | exact Rows.mono h (fun _ _ he => hk _ _ he)
  | halt x w' => cases x <;> simp only [Oper.upon] at h ⊢ <;> first | exact h | exact absurd h (hp _ _ _)

def cntU (listed : Array Bool) (m : Nat) : Nat := (List.range m).countP fun j => !listed.getD j true
theorem cntU_ge {listed : Array Bool} {i : Nat} : ∀ {m : Nat}, m ≤ i → cntU (listed.setIfInBounds i true) m = cntU listed m
  | 0, _ => rfl
  | m + 1, h => by
    unfold cntU at *
    rw [List.range_succ, List.countP_append, List.countP_append]
    have := cntU_ge (listed := listed) (i := i) (m := m) (by omega)
    unfold cntU at this
    rw [this]
    congr 1
    simp only [List.countP_singleton]
    rw [getD_set_ne true (by omega)]
theorem cntU_set {listed : Array Bool} {i : Nat} (hs : i < listed.size) (hi : listed.getD i true = false) : ∀ {m : Nat}, i < m → cntU (listed.setIfInBounds i true) m + 1 = cntU listed m
  | 0, h => by omega
  | m + 1, h => by
    unfold cntU
    rw [List.range_succ, List.countP_append, List.countP_append]
    by_cases him : i = m
    · subst him
      have := cntU_ge (listed := listed) (i := i) (m := i) (Nat.le_refl _)
      unfold cntU at this
      rw [this]
      simp only [List.countP_singleton]
      rw [hi]
      have : (listed.setIfInBounds i true).getD i true = true := by simp [hs]
      rw [this]; simp
    · have := cntU_set hs hi (m := m) (by omega)
      unfold cntU at this
      rw [← this]
      simp only [List.countP_singleton]
      rw [getD_set_ne true him]
      omega
theorem cntU_zero {listed : Array Bool} {m : Nat} (h : cntU listed m = 0) {j : Nat} (hj : j < m) : listed.getD j true = true := by
  unfold cntU at h
  rw [List.countP_eq_zero] at h
  simpa using h j (List.mem_range.2 hj)
theorem cntU_pos {listed : Array Bool} : ∀ {m : Nat}, 0 < cntU listed m → ∃ i, i < m ∧ listed.getD i true = false ∧ ∀ j, j < i → listed.getD j true = true
  | 0, h => by simp [cntU] at h
  | m + 1, h => by
    by_cases h0 : 0 < cntU listed m
    · obtain ⟨i, h1, h2, h3⟩ := cntU_pos h0; exact ⟨i, by omega, h2, h3⟩
    · have hz : cntU listed m = 0 := by omega
      refine ⟨m, by omega, ?_, fun j hj => cntU_zero hz hj⟩
      cases hm : listed.getD m true with
      | false => rfl
      | true =>
        exfalso
        unfold cntU at h hz
        rw [List.range_succ, List.countP_append, hz] at h
        simp [List.countP_singleton, hm] at h
        simp_all

theorem drawB_spec {l : List Oper} {m : Nat} (h : drawB l m = true) : m ≤ l.length ∧ (∀ i, i < m → ∃ o d, l[i]? = some o ∧ o.dst = some d ∧ (∀ e ∈ o.after, Region.binds .any e = true → e.on < i) ∧ ∀ j, j < m → j ≠ i → (l[j]?).bind (·.dst) ≠ some d) ∧
    (m = l.length ∨ (Region.sinkB .any l.toArray m = true ∧ Region.chainB .any l.toArray m = true)) ∧ Region.seqB .any l.toArray (l.length - m) m (listedN l.length m) = true := by
  simp only [drawB, Bool.and_eq_true, decide_eq_true_eq, Bool.or_eq_true] at h
  obtain ⟨⟨⟨h1, h2⟩, h3⟩, h4⟩ := h
  refine ⟨h1, fun i hi => ?_, h3, h4⟩
  have := List.all_eq_true.1 h2 i (List.mem_range.2 hi)
  cases ho : l[i]? with
  | none => rw [ho] at this; simp at this
  | some o =>
    rw [ho] at this
    simp only [Bool.and_eq_true] at this
    obtain ⟨⟨k1, k2⟩, k3⟩ := this
    obtain ⟨d, hd⟩ := Option.isSome_iff_exists.1 k1
    refine ⟨o, d, rfl, hd, fun e he hb => ?_, fun j hj hne => ?_⟩
    · have := Array.all_eq_true_iff_forall_mem.1 k2 e he
      simpa [hb] using this
    · have := List.all_eq_true.1 k3 j (List.mem_range.2 hj)
      simp [hne] at this
      rw [hd] at this; exact this

theorem drawA_go {l : List Oper} {as : List AK} (hB : drawB l as.length = true) (steps : StepsA P n fr H l as l as 0)
    (tail : ∀ (fr' : Fr) (T : Nat → Nat) (H' : SH), SH.le H H' → (∀ d, outB l as.length d = true → fr' d = fr d) → (∀ j, j < as.length → (as.getD j (.val undef)).is H (fr' (dstAt l j)) T H') → SOps P n l.toArray (l.drop as.length) fr' H' Q)
    (w0 : World) (H0 : SH) : ∀ (f : Nat) (listed : Array Bool) (fr' : Fr) (T : Nat → Nat) (H' : SH) (w : World), cntU listed as.length = f → HeadInv .any l.toArray as.length listed → St w0 H0 H' w → SH.le H H' →
      (∀ d, outB l as.length d = true → fr' d = fr d) → (∀ j, j < as.length → listed.getD j false = true → (as.getD j (.val undef)).is H (fr' (dstAt l j)) T H') →
      wpAny P .any l.toArray (lift n w0 H0 Q) (f + (l.length - as.length)) listed (mkAct n fr') w := by
  obtain ⟨hm, hord, hend, hseq⟩ := drawB_spec hB
  intro f
  induction f with
  | zero =>
    intro listed fr' T H' w hf inv st hle hs hA
    have hsz : listed.size = l.length := by simpa using inv.size
    have hl : listed = listedN l.length as.length := by
      apply Array.ext
      · simp [listedN, hsz]
      · intro i h1 h2
        simp only [listedN, Array.getElem_ofFn]
        by_cases hi : i < as.length
        · have := cntU_zero hf hi
          simp [h1] at this
          simp [this, hi]
        · have := inv.tail i (by omega) (by simpa [← hsz] using h1)
          simp [h1] at this
          simp [this, hi]
    have hall : ∀ j, j < as.length → listed.getD j false = true := fun j hj => by
      have := cntU_zero hf hj
      have hj' : j < listed.size := by omega
      simp [hj'] at this ⊢; exact this
    have ht := tail fr' T H' hle hs (fun j hj => hA j hj (hall j hj)) w0 H0 w st
    rw [hl, Nat.zero_add]
    have hlen : (l.drop as.length).length = l.length - as.length := by simp
    have := wpAny_of_seq (md := .any) (Q' := lift n w0 H0 Q) (l.drop as.length) as.length (listedN l.length as.length) (mkAct n fr') w (fun j => by simp [List.getElem?_drop]) (by rw [hlen]; exact hseq) ht
    rwa [hlen] at this
  | succ f ih =>
    intro listed fr' T H' w hf inv st hle hs hA
    have hsz : listed.size = l.length := by simpa using inv.size
    obtain ⟨i0, hi0, hu0, hlow⟩ := cntU_pos (listed := listed) (m := as.length) (by omega)
    have hne : Region.ready .any l.toArray listed ≠ [] := by
      obtain ⟨o, d, ho, hd, hed, _⟩ := hord i0 hi0
      have : i0 ∈ Region.ready .any l.toArray listed := mem_ready.2 ⟨hu0, o, by simpa using ho, fun e he hb => by
        have h1 := hlow e.on (hed e he hb)
        have h2 : e.on < listed.size := by have := hed e he hb; omega
        simp [h2] at h1 ⊢; exact h1⟩
      intro h; rw [h] at this; cases this
    rw [show f + 1 + (l.length - as.length) = (f + (l.length - as.length)) + 1 by omega]
    refine ⟨fun h => absurd h hne, fun i hi => ?_⟩
    obtain ⟨hun, oi, hoi, hall⟩ := mem_ready.1 hi
    have hoi' : l[i]? = some oi := by simpa using hoi
    have hil : i < l.length := (List.getElem?_eq_some_iff.1 hoi').1
    have him : i < as.length := by
      rcases Nat.lt_or_ge i as.length with h | h
      · exact h
      · rcases hend with he | ⟨h1, h2⟩
        · omega
        · exact absurd hi (tail_waits h1 h2 (by simp; omega) inv _ i0 rfl hi0 hu0 i h)
    obtain ⟨o, d, ho, hd, hed, hdist⟩ := hord i him
    obtain rfl : o = oi := by rw [ho] at hoi'; exact Option.some.inj hoi'
    have hdi : dstAt l i = d := by simp [dstAt, ho, hd]
    have hstep := StepsA.get as l 0 steps i o him ho
    rw [Nat.zero_add] at hstep
    have h1 := hstep fr' T H' hle hs (fun j hj => by
      unfold depB at hj
      rw [ho] at hj
      obtain ⟨e, he, hb⟩ := Array.any_eq_true'.1 hj
      simp only [Bool.and_eq_true, beq_iff_eq] at hb
      have hlt := hed e he hb.1
      have := hall e he hb.1
      rw [hb.2] at hlt this
      exact hA j (by omega) this) w0 H0 w st
    have key : ∀ (a' : Act) (w' : World), lift n w0 H0 (stepQ fr' (dstAt l i) fun v H'' => ∃ T', SH.le H' H'' ∧ (∀ b, H' b ≠ none → T' b = T b) ∧ (as.getD i (.val undef)).is H v T' H'') .normal a' w' →
        wpAny P .any l.toArray (lift n w0 H0 Q) (f + (l.length - as.length)) (listed.setIfInBounds i true) a' w' := by
      rintro a' w' ⟨fr'', H'', rfl, st'', v, rfl, T', hle', hT', ha⟩
      have his : i < listed.size := by omega
      refine ih _ _ T' H'' w' (by have := cntU_set his hun him; omega) (inv.set hi him) st'' (hle.trans hle') (fun d' hd' => ?_) (fun j hj hl => ?_)
      · have hne' : d' ≠ d := by
          rintro rfl
          have := List.all_eq_true.1 hd' i (List.mem_range.2 him)
          simp [ho, hd] at this
        have : (fr'.upd (dstAt l i) v) d' = fr' d' := by
          unfold Fr.upd; rw [hdi]
          cases hb : Nat.beq d' d with
          | false => rfl
          | true => exact absurd (Nat.eq_of_beq_eq_true hb) hne'
        rw [this]; exact hs d' hd'
      · by_cases hji : j = i
        · subst hji
          have : (fr'.upd (dstAt l j) v) (dstAt l j) = v := by unfold Fr.upd; rw [Nat.beq_refl]; rfl
          rw [this]; exact ha
        · rw [getD_set_ne false (Ne.symm hji)] at hl
          have hne' : dstAt l j ≠ d := by
            obtain ⟨oj, dj, hoj, hdj, _, _⟩ := hord j hj
            have := hdist j hj hji
            rw [hoj] at this
            simp only [Option.bind_some, hdj] at this
            simp only [dstAt, hoj, Option.bind_some, hdj, Option.getD_some]
            intro h; exact this (by rw [h])
          have : (fr'.upd (dstAt l i) v) (dstAt l j) = fr' (dstAt l j) := by
            unfold Fr.upd; rw [hdi]
            cases hb : Nat.beq (dstAt l j) d with
            | false => rfl
            | true => exact absurd (Nat.eq_of_beq_eq_true hb) hne'
          rw [this]
          exact AK.is_mono (hA j hj hl) hle' hT'
    unfold wpOp
    simp only [hoi]
    unfold wpList at h1
    split
    · rename_i hw
      rw [if_pos hw] at h1
      rcases h1 with h1 | h1
      · refine .inl (wp_of_step h1 key ?_ ?_)
        · rintro c a' w' ⟨_, _, _, _, q⟩; exact q
        · rintro ⟨a', w', _, _, _, _, q⟩; exact q
      · obtain ⟨_, a', w', _, _, _, _, q⟩ := h1; exact q.elim
    · rename_i hw
      rw [if_neg hw] at h1
      exact key _ _ h1

/-- **The region**: each operation's value is known of what it waits for; behind all, the tail in the text's order. -/
theorem SW.drawA {id : Nat} {l : List Oper} (as : List AK) (hm : P.follows .mixedOrders = true) (hB : drawB l as.length = true) (steps : StepsA P n fr H l as l as 0)
    (tail : ∀ (fr' : Fr) (T : Nat → Nat) (H' : SH), SH.le H H' → (∀ d, outB l as.length d = true → fr' d = fr d) → (∀ j, j < as.length → (as.getD j (.val undef)).is H (fr' (dstAt l j)) T H') → SOps P n l.toArray (l.drop as.length) fr' H' Q) :
    SW P n (.region id l.toArray true) fr H Q := fun w0 H0 w st => by
  have hml := (drawB_spec hB).1
  refine wp_region_any hm ?_
  have hc : cntU (Array.replicate l.length false) as.length = as.length := by
    unfold cntU
    rw [List.countP_eq_length.2]
    · simp
    · intro j hj
      have : j < l.length := by have := List.mem_range.1 hj; omega
      simp [this]
  have := drawA_go hB steps tail w0 H0 as.length (Array.replicate l.length false) fr (fun _ => 0) H { w with drawn := w.drawn + 1 } hc
    ⟨by simp, fun j oj _ hl => (by rw [getD_replicate_false] at hl; cases hl), fun t _ ht => getD_in (by simpa using ht) (getD_replicate_false _ _)⟩
    ⟨st.os, st.tape, st.output, st.size, st.keep, st.sat, st.own⟩ (.refl H) (fun _ _ => rfl) (fun j _ hl => by rw [getD_replicate_false] at hl; cases hl)
  rw [show as.length + (l.length - as.length) = l.toArray.size by simp; omega] at this
  simpa using this

/-! ### the steps -/
variable {ops : Array Oper} {o : Oper} {fr' : Fr} {T : Nat → Nat} {H' : SH} {d : Nat}
theorem Sat.le {w : World} {H H' : SH} (h : Sat H' w) (hle : SH.le H H') : Sat H w := fun b o hb => h b o (hle b o hb)
theorem SA.rd {v : Value} (hle : SH.le H H') (hd : o.dst = some d) (hg : wantF n ops fr' o = true) (h : ∀ w, Sat H w → (execOp (evF n fr') o).run P w = .ok (.value v) w) :
    SOps P n ops [o] fr' H' (stepQ fr' d fun u H'' => ∃ T', SH.le H' H'' ∧ (∀ b, H' b ≠ none → T' b = T b) ∧ (AK.val v).is H u T' H'') :=
  SOps.rd hd hg (fun w hw => h w (hw.le hle)) (SOps.nil ⟨v, rfl, T, .refl _, fun _ _ => rfl, rfl⟩)
theorem SA.val {v : Value} (hd : o.dst = some d) (hg : wantF n ops fr' o = true) (h : ∀ w, (execOp (evF n fr') o).run P w = .ok (.value v) w) :
    SOps P n ops [o] fr' H' (stepQ fr' d fun u H'' => ∃ T', SH.le H' H'' ∧ (∀ b, H' b ≠ none → T' b = T b) ∧ (AK.val v).is H u T' H'') :=
  SOps.val hd hg h (SOps.nil ⟨v, rfl, T, .refl _, fun _ _ => rfl, rfl⟩)
theorem SA.off (hd : o.dst = some d) (hg : wantF n ops fr' o = false) :
    SOps P n ops [o] fr' H' (stepQ fr' d fun u H'' => ∃ T', SH.le H' H'' ∧ (∀ b, H' b ≠ none → T' b = T b) ∧ (AK.val undef).is H u T' H'') :=
  SOps.off hd hg (SOps.nil ⟨undef, rfl, T, .refl _, fun _ _ => rfl, rfl⟩)
theorem SA.rdH {v : Value} {Hc : SH} (hle : SH.le Hc H') (hd : o.dst = some d) (hg : wantF n ops fr' o = true) (h : ∀ w, Sat Hc w → (execOp (evF n fr') o).run P w = .ok (.value v) w) :
    SOps P n ops [o] fr' H' (stepQ fr' d fun u H'' => ∃ T', SH.le H' H'' ∧ (∀ b, H' b ≠ none → T' b = T b) ∧ (AK.val v).is H u T' H'') :=
  SOps.rd hd hg (fun w hw => h w (hw.le hle)) (SOps.nil ⟨v, rfl, T, .refl _, fun _ _ => rfl, rfl⟩)
theorem cells_len {cs : List Value} {bs : List UInt8} (h : cs = byteCells bs) : cs.length = bs.length := by rw [h]; simp [byteCells]
theorem row_updD {H : SH} {b : Nat} {o : AO} {cs : List Value} (h : o.cells = cs) : (H.upd b o).row (some (b, 0)) cs :=
  .inr ⟨(b, 0), o, rfl, SH.upd_same _ _ _, fun j u hu => by rw [h]; simpa using hu⟩
/-- A move of what is new. -/
theorem SA.same {v : Value} {a : AK} (hd : o.dst = some d) (hg : wantF n ops fr' o = true) (h : ∀ w, (execOp (evF n fr') o).run P w = .ok (.value v) w) (ha : a.is H v T H') :
    SOps P n ops [o] fr' H' (stepQ fr' d fun u H'' => ∃ T', SH.le H' H'' ∧ (∀ b, H' b ≠ none → T' b = T b) ∧ a.is H u T' H'') :=
  SOps.val hd hg h (SOps.nil ⟨v, rfl, T, .refl _, fun _ _ => rfl, ha⟩)
theorem SCalls.frame {f : FuncId} {args : Array Value} {v : Value} {Hc : SH} (h : SCalls P f args Hc fun u H'' => u = v ∧ SH.le Hc H'') (hle : SH.le Hc H') : SCalls P f args H' fun u H'' => u = v ∧ H'' = H' := fun w hw => by
  refine (h w (hw.le hle)).mono ?_
  rintro e w' ⟨u, H2, rfl, st, rfl, h2⟩
  refine ⟨u, H', rfl, ⟨st.os, st.tape, st.output, st.size, fun b hb hr => st.keep b hb fun o ho => hr o (hle b o ho), fun b o hb => ?_, fun b o hb hr => .inl ⟨o, hb, hr⟩⟩, rfl, rfl⟩
  cases hc : Hc b with
  | some o' =>
    have := hle b o' hc
    rw [hb] at this; cases this
    exact st.sat b o (h2 b o hc)
  | none =>
    rw [st.keep b (hw.lt hb) fun o ho => by rw [hc] at ho; cases ho]
    exact hw b o hb
theorem SA.enter {g : FuncId} {args : Array Value} {v : Value} {Hc : SH} (hle : SH.le Hc H') (hd : o.dst = some d) (hg : wantF n ops fr' o = true) (hx : ∀ w, (execOp (evF n fr') o).run P w = .ok (.enter g args) w)
    (hc : SCalls P g args Hc fun u H'' => u = v ∧ SH.le Hc H'') :
    SOps P n ops [o] fr' H' (stepQ fr' d fun u H'' => ∃ T', SH.le H' H'' ∧ (∀ b, H' b ≠ none → T' b = T b) ∧ (AK.val v).is H u T' H'') :=
  SOps.enter hd hg hx (hc.frame hle) fun u H'' ⟨e1, e2⟩ => by
    subst e1; subst e2; exact SOps.nil ⟨u, rfl, T, .refl _, fun _ _ => rfl, rfl⟩
theorem SH.le.upd_in {H H' : SH} (h : SH.le H H') {b : Nat} {o : AO} (hb : H' b = some o) : SH.le (H.upd b o) H' := fun c oc hc => by
  by_cases hcb : c = b
  · subst hcb; rw [SH.upd_same] at hc; cases hc; exact hb
  · rw [SH.upd_ne _ _ hcb] at hc; exact h c oc hc
/-- Something new: told of by a rule for the text's order. -/
theorem SA.fresh {tag : Nat} {mk : Nat → Nat → Value} {ao : Nat → AO} {ok : Nat → Prop} (hle : SH.le H H')
    (h : ∀ {Q' : Post}, (∀ b c, H' b = none → ok c → SOps P n ops [] (fr'.upd d (mk b c)) (H'.upd b { ao c with ro := false }) Q') → SOps P n ops [o] fr' H' Q') :
    SOps P n ops [o] fr' H' (stepQ fr' d fun u H'' => ∃ T', SH.le H' H'' ∧ (∀ b, H' b ≠ none → T' b = T b) ∧ (AK.fresh tag mk ao ok).is H u T' H'') := by
  refine h fun b c hb hc => ?_
  have hH : H b = none := by
    cases h0 : H b with
    | none => rfl
    | some o => rw [hle b o h0] at hb; cases hb
  have hle' : SH.le H' (H'.upd b (ao c)) := fun c' oc hc' => by
    rw [SH.upd_ne _ _ (by rintro rfl; rw [hb] at hc'; cases hc')]; exact hc'
  have fin : Post := stepQ fr' d fun u H'' => ∃ T', SH.le H' H'' ∧ (∀ b, H' b ≠ none → T' b = T b) ∧ (AK.fresh tag mk ao ok).is H u T' H''
  have post : ∃ v, fr'.upd d (mk b c) = fr'.upd d v ∧ ∃ T' : Nat → Nat, SH.le H' (H'.upd b (ao c)) ∧ (∀ b', H' b' ≠ none → T' b' = T b') ∧ (AK.fresh tag mk ao ok).is H v T' (H'.upd b (ao c)) :=
    ⟨mk b c, rfl, fun b' => if b' = b then tag else T b', hle', fun b' hb' => if_neg (by rintro rfl; exact hb' hb), b, c, rfl, hH, SH.upd_same _ _ _, if_pos rfl, hc⟩
  intro w0 H0 w st
  refine SOps.nil (fr := fr'.upd d (mk b c)) (H := H'.upd b (ao c)) post w0 H0 w ?_
  refine { st with sat := fun b' o' hb' => ?_, own := fun b' o' hb' hr => ?_ }
  · by_cases hbb : b' = b
    · subst hbb
      rw [SH.upd_same] at hb'; cases hb'
      obtain ⟨rest, fz, h1, h2, h3⟩ := st.sat b' _ (SH.upd_same _ _ _)
      exact ⟨rest, fz, h1, h2, fun _ => h3 rfl⟩
    · rw [SH.upd_ne _ _ hbb] at hb'
      exact st.sat b' o' (by rw [SH.upd_ne _ _ hbb]; exact hb')
  · by_cases hbb : b' = b
    · subst hbb; exact st.own b' _ (SH.upd_same _ _ _) rfl
    · rw [SH.upd_ne _ _ hbb] at hb'
      exact st.own b' o' (by rw [SH.upd_ne _ _ hbb]; exact hb') hr
end
end Go.Proofs.YtpnbehgkbfhacaaDoor.K
