/- A region that draws its order, with one operation that writes, and reads beside it. -/
import Derived.Test.YtpnbehgkbfhacaaErr
set_option linter.unusedVariables false
set_option linter.unusedSimpArgs false
namespace Go.Proofs.Ytpnbehgkbfhacaa.K
open Go

/-- What an operation is to the one that writes: ahead of it; it; beside or behind it. -/
inductive WK where
  | d
  | w
  | b
def WK.isD : WK → Bool | .d => true | _ => false
def WK.isW : WK → Bool | .w => true | _ => false
def AK.isFresh : AK → Bool | .fresh .. => true | _ => false
def AK.isRel : AK → Bool | .rel .. => true | _ => false
def kAt (ks : List WK) (i : Nat) : WK := ks.getD i .b
def aAt (az : List AK) (i : Nat) : AK := az.getD i (.val undef)
def drawWB (l : List Oper) (az : List AK) (ks : List WK) (E : List Nat) (w0 : Nat) : Bool :=
  decide (az.length ≤ l.length) && decide (w0 < az.length) && (kAt ks w0).isW && !E.contains w0 && decide (ks.length = az.length) &&
  ((List.range az.length).all fun i => match l[i]? with
    | some o => (o.dst.isSome || decide (i = w0)) && (o.after.all fun e => !Region.binds .any e || decide (e.on < i)) && ((List.range az.length).all fun j => decide (j = i) || o.dst.isNone || ((l[j]?).bind (·.dst)) != o.dst)
    | none => false) &&
  (decide (az.length = l.length) || (sinkE l az.length E && Region.chainB .any l.toArray az.length)) && Region.seqB .any l.toArray (l.length - az.length) az.length (listedN l.length az.length) &&
  ((List.range az.length).all fun i => !(kAt ks i).isD || (decide (i < w0) && ((List.range (w0 + 1)).any fun j => decide (i < j) && Region.waitsFor .any l.toArray j i && (decide (j = w0) || (kAt ks j).isD)))) &&
  ((List.range az.length).all fun i => decide (i = w0) || !(kAt ks i).isW) &&
  ((List.range az.length).all fun i => (kAt ks i).isD || decide (i = w0) || !(aAt az i).isFresh) &&
  ((List.range az.length).all fun i => !(aAt az i).isRel || decide (i = w0) || (List.range i).any fun k => depB l i k && (aAt az k).isRel)

/-- It waits for it, and it has a value. -/
def depV (l : List Oper) (i j : Nat) : Bool := depB l i j && ((l[j]?).bind (·.dst)).isSome
section
variable {P : Program} {n : Nat} {fr : Fr} {H Hb : SH} {Q : Post}
/-- A slot has what it had when an operation comes up: who writes it waits for that. -/
def outI (l : List Oper) (m i d : Nat) : Bool := (List.range m).all fun k => ((l[k]?).bind (·.dst)) != some d || depB l k i
def StepD (P : Program) (n : Nat) (fr : Fr) (H : SH) (l : List Oper) (az : List AK) (i : Nat) (o : Oper) (a : AK) : Prop :=
  ∀ (fr' : Fr) (T : Nat → Nat) (H' : SH), SH.le H H' → (∀ d, outI l az.length i d = true → fr' d = fr d) → (∀ j, depB l i j = true → (az.getD j (.val undef)).is H (fr' (dstAt l j)) T H') →
    SOps P n l.toArray [o] fr' H' (stepQ fr' (dstAt l i) fun v H'' => ∃ T', SH.le H' H'' ∧ (∀ b, H' b ≠ none → T' b = T b) ∧ a.is H v T' H'')
def StepB (P : Program) (n : Nat) (fr : Fr) (Hb H : SH) (l : List Oper) (az : List AK) (i : Nat) (o : Oper) (a : AK) : Prop :=
  ∀ (fr' : Fr) (T : Nat → Nat) (H' : SH), SH.le Hb H' → (∀ d, outI l az.length i d = true → fr' d = fr d) → (∀ j, depV l i j = true → (aAt az j).isFresh = false → (az.getD j (.val undef)).is H (fr' (dstAt l j)) T H') →
    SOps P n l.toArray [o] fr' H' (stepQ fr' (dstAt l i) fun v H'' => ∃ T', SH.le H' H'' ∧ (∀ b, H' b ≠ none → T' b = T b) ∧ a.is H v T' H'')
def writQ (o : Oper) (fr : Fr) (R : Value → SH → Prop) : Post
  | .normal, fr', H' => match o.dst with
    | some d => ∃ v, fr' = fr.upd d v ∧ R v H'
    | none => fr' = fr ∧ ∃ u, R u H'
  | _, _, _ => False
def StepW (P : Program) (n : Nat) (fr : Fr) (Hb H : SH) (l : List Oper) (az : List AK) (i : Nat) (o : Oper) (a : AK) : Prop :=
  ∀ (fr' : Fr) (T : Nat → Nat) (H' : SH), SH.le H H' → (∀ d, outI l az.length i d = true → fr' d = fr d) → (∀ j, depV l i j = true → (az.getD j (.val undef)).is H (fr' (dstAt l j)) T H') →
    SOps P n l.toArray [o] fr' H' (writQ o fr' fun v H'' => SH.le Hb H'' ∧ a.is H v T H'')
def StepsW (P : Program) (n : Nat) (fr : Fr) (Hb H : SH) (l : List Oper) (az : List AK) : List Oper → List AK → List WK → Nat → Prop
  | o :: rest, a :: more, k :: ks, i => (match k with | .d => StepD P n fr H l az i o a | .w => StepW P n fr Hb H l az i o a | .b => StepB P n fr Hb H l az i o a) ∧ StepsW P n fr Hb H l az rest more ks (i + 1)
  | _, [], _, _ => True
  | _, _ :: _, _, _ => False
theorem StepsW.get {l : List Oper} {az : List AK} (more : List AK) : ∀ (rest : List Oper) (ks : List WK) (i : Nat), StepsW P n fr Hb H l az rest more ks i → ∀ (j : Nat) (o : Oper), j < more.length → rest[j]? = some o →
    match kAt ks j with | .d => StepD P n fr H l az (i + j) o (more.getD j (.val undef)) | .w => StepW P n fr Hb H l az (i + j) o (more.getD j (.val undef)) | .b => StepB P n fr Hb H l az (i + j) o (more.getD j (.val undef)) := by
  induction more with
  | nil => intro rest ks i h j o hj; simp at hj
  | cons a more ih =>
    intro rest ks i h j o hj ho
    cases rest with
    | nil => simp at ho
    | cons o' rest =>
      cases ks with
      | nil => exact h.elim
      | cons k ks =>
        cases j with
        | zero =>
          rw [List.getElem?_cons_zero] at ho
          cases ho
          exact h.1
        | succ j =>
          have := ih rest ks (i + 1) h.2 j o (by simpa using hj) (by simpa using ho)
          rw [show i + (j + 1) = i + 1 + j by omega]
          exact this
def PureW (P : Program) (n : Nat) (fr : Fr) (Hb H : SH) (l : List Oper) (az : List AK) (i : Nat) (o : Oper) (v : Value) : Prop :=
  ∀ (fr' : Fr) (T : Nat → Nat) (H' : SH), SH.le Hb H' → (∀ d, outI l az.length i d = true → fr' d = fr d) → (∀ j, depV l i j = true → (aAt az j).isFresh = false → (az.getD j (.val undef)).is H (fr' (dstAt l j)) T H') →
    wantF n l.toArray fr' o = true ∧ ∀ w, (execOp (evF n fr') o).run P w = .ok (.value v) w
def PureWs (P : Program) (n : Nat) (fr : Fr) (Hb H : SH) (l : List Oper) (az : List AK) : List Nat → Prop
  | [] => True
  | i :: r => (∃ o v, l[i]? = some o ∧ az.getD i (.val undef) = .val v ∧ Region.free .any l.toArray (listedN l.length i) i = true ∧ PureW P n fr Hb H l az i o v) ∧ PureWs P n fr Hb H l az r
theorem PureWs.get {l : List Oper} {az : List AK} : ∀ {E : List Nat}, PureWs P n fr Hb H l az E → ∀ i ∈ E, ∃ o v, l[i]? = some o ∧ az.getD i (.val undef) = .val v ∧ Region.free .any l.toArray (listedN l.length i) i = true ∧ PureW P n fr Hb H l az i o v
  | i :: r, ⟨h, h2⟩, j, hj => by
    rcases List.mem_cons.1 hj with rfl | hj
    · exact h
    · exact PureWs.get h2 j hj

structure WSpec (l : List Oper) (az : List AK) (ks : List WK) (E : List Nat) (w0 : Nat) : Prop where
  len : az.length ≤ l.length
  w : w0 < az.length
  kw : kAt ks w0 = .w
  ew : E.contains w0 = false
  op : ∀ i, i < az.length → ∃ o, l[i]? = some o ∧ (∀ e ∈ o.after, Region.binds .any e = true → e.on < i) ∧ (i ≠ w0 → ∃ d, o.dst = some d) ∧ ∀ d, o.dst = some d → ∀ j, j < az.length → j ≠ i → (l[j]?).bind (·.dst) ≠ some d
  fin : az.length = l.length ∨ (sinkE l az.length E = true ∧ Region.chainB .any l.toArray az.length = true)
  seq : Region.seqB .any l.toArray (l.length - az.length) az.length (listedN l.length az.length) = true
  dd : ∀ i, i < az.length → kAt ks i = .d → i < w0 ∧ ∃ j, i < j ∧ j ≤ w0 ∧ Region.waitsFor .any l.toArray j i = true ∧ (j = w0 ∨ kAt ks j = .d)
  one : ∀ i, i < az.length → kAt ks i = .w → i = w0
  bb : ∀ i, i < az.length → kAt ks i = .b → (aAt az i).isFresh = false
  rel : ∀ i, i < az.length → (aAt az i).isRel = true → i = w0 ∨ ∃ k, k < i ∧ depB l i k = true ∧ (aAt az k).isRel = true
theorem kD {k : WK} (h : k.isD = true) : k = .d := by cases k <;> first | rfl | cases h
theorem kW {k : WK} (h : k.isW = true) : k = .w := by cases k <;> first | rfl | cases h
theorem drawWB_spec {l : List Oper} {az : List AK} {ks : List WK} {E : List Nat} {w0 : Nat} (h : drawWB l az ks E w0 = true) : WSpec l az ks E w0 := by
  unfold drawWB at h
  simp only [Bool.and_eq_true, decide_eq_true_eq, Bool.or_eq_true, Bool.not_eq_true', List.all_eq_true, List.mem_range] at h
  obtain ⟨⟨⟨⟨⟨⟨⟨⟨⟨⟨⟨h1, h2⟩, h3⟩, h4⟩, h5⟩, h6⟩, h7⟩, h8⟩, h9⟩, h10⟩, h11⟩, h12⟩ := h
  refine ⟨h1, h2, kW h3, h4, fun i hi => ?_, h7, h8, fun i hi hk => ?_, fun i hi hk => ?_, fun i hi hk => ?_, fun i hi hr => ?_⟩
  · have := h6 i hi
    cases ho : l[i]? with
    | none => rw [ho] at this; cases this
    | some o =>
      rw [ho] at this
      simp only [Bool.and_eq_true, Bool.or_eq_true, decide_eq_true_eq, List.all_eq_true, List.mem_range] at this
      obtain ⟨⟨k1, k2⟩, k3⟩ := this
      refine ⟨o, rfl, fun e he hb => ?_, fun hne => ?_, fun d hd j hj hne => ?_⟩
      · have := Array.all_eq_true_iff_forall_mem.1 k2 e he
        simpa [hb] using this
      · rcases k1 with k1 | k1
        · exact Option.isSome_iff_exists.1 k1
        · exact absurd k1 hne
      · rcases k3 j hj with (k4 | k4) | k4
        · exact absurd k4 hne
        · rw [hd] at k4; cases k4
        · rw [hd] at k4; simpa using k4
  · rcases h9 i hi with h | h
    · rw [hk] at h; cases h
    · obtain ⟨a1, a2⟩ := h
      obtain ⟨j, hj, hj2⟩ := List.any_eq_true.1 a2
      simp only [Bool.and_eq_true, decide_eq_true_eq, Bool.or_eq_true] at hj2
      exact ⟨a1, j, hj2.1.1, by have := List.mem_range.1 hj; omega, hj2.1.2, hj2.2.imp id kD⟩
  · rcases h10 i hi with h | h
    · exact h
    · rw [hk] at h; cases h
  · rcases h11 i hi with (h | h) | h
    · rw [hk] at h; cases h
    · subst h; rw [kW h3] at hk; cases hk
    · exact h
  · rcases h12 i hi with (h | h) | h
    · rw [hr] at h; cases h
    · exact .inl h
    · obtain ⟨k, hk, hk2⟩ := List.any_eq_true.1 h
      simp only [Bool.and_eq_true] at hk2
      exact .inr ⟨k, List.mem_range.1 hk, hk2.1, hk2.2⟩
theorem dep_on {l : List Oper} {i j : Nat} {o : Oper} (ho : l[i]? = some o) (h : depB l i j = true) : ∃ e ∈ o.after, Region.binds .any e = true ∧ e.on = j := by
  unfold depB at h
  rw [ho] at h
  obtain ⟨e, he, hb⟩ := Array.any_eq_true'.1 h
  simp only [Bool.and_eq_true, beq_iff_eq] at hb
  exact ⟨e, he, hb.1, hb.2⟩
/-- What was read of the order: a thing of the writer's is listed behind it; what is ahead of it is listed with it. -/
theorem rel_after {l : List Oper} {az : List AK} {ks : List WK} {E : List Nat} {w0 : Nat} (s : WSpec l az ks E w0) {listed : Array Bool} (inv : HeadInv .any l.toArray az.length listed) : ∀ (i : Nat), i < az.length → (aAt az i).isRel = true → listed.getD i false = true → listed.getD w0 false = true := by
  intro i
  induction i using Nat.strongRecOn with
  | _ i ih =>
    intro hi hr hl
    rcases s.rel i hi hr with rfl | ⟨k, hk, hd, hkr⟩
    · exact hl
    · obtain ⟨o, ho, _⟩ := s.op i hi
      obtain ⟨e, he, hb, hon⟩ := dep_on ho hd
      have := inv.closed i o (by simpa using ho) hl e he hb
      rw [hon] at this
      exact ih k hk (by omega) hkr this
theorem d_before {l : List Oper} {az : List AK} {ks : List WK} {E : List Nat} {w0 : Nat} (s : WSpec l az ks E w0) {listed : Array Bool} (inv : HeadInv .any l.toArray az.length listed) (hw : listed.getD w0 false = true) : ∀ (f i : Nat), w0 - i = f → i < az.length → kAt ks i = .d → listed.getD i false = true := by
  intro f
  induction f using Nat.strongRecOn with
  | _ f ih =>
    intro i hf hi hk
    obtain ⟨h1, j, h2, h3, h4, h5⟩ := s.dd i hi hk
    obtain ⟨oj, hoj, e, he, hb, hon⟩ := Region.waitsFor_spec h4
    have hj : listed.getD j false = true := by
      rcases h5 with rfl | h5
      · exact hw
      · by_cases hjw : j = w0
        · rw [hjw]; exact hw
        · exact ih (w0 - j) (by omega) j rfl (by have := s.w; omega) h5
    have := inv.closed j oj hoj hj e he hb
    rwa [hon] at this
/-- The facts in their two times. -/
structure WInv (fr : Fr) (Hb H : SH) (l : List Oper) (az : List AK) (w0 : Nat) (listed : Array Bool) (fr' : Fr) (T : Nat → Nat) (H' : SH) : Prop where
  lb : SH.le Hb H'
  la : listed.getD w0 false = false → SH.le H H'
  out : ∀ d, outB l az.length d = true → fr' d = fr d
  outi : ∀ i, i < az.length → listed.getD i true = false → ∀ d, outI l az.length i d = true → fr' d = fr d
  fact : ∀ j, j < az.length → listed.getD j false = true → (listed.getD w0 false = true → (aAt az j).isFresh = false) → ∀ d, (l[j]?).bind (·.dst) = some d → (aAt az j).is H (fr' d) T H'
  wf : listed.getD w0 false = true → ∃ u, (aAt az w0).is H u T H'
theorem upd_out {l : List Oper} {m i d d2 : Nat} {o : Oper} {fr : Fr} {v : Value} (ho : l[i]? = some o) (hd : o.dst = some d) (hi : i < m) (h : outB l m d2 = true) : (fr.upd d v) d2 = fr d2 := by
  have hne' : d2 ≠ d := by
    rintro rfl
    have := List.all_eq_true.1 h i (List.mem_range.2 hi)
    simp [ho, hd] at this
  unfold Fr.upd
  cases hb : Nat.beq d2 d with
  | false => rfl
  | true => exact absurd (Nat.eq_of_beq_eq_true hb) hne'
theorem upd_self (fr : Fr) (d : Nat) (v : Value) : (fr.upd d v) d = v := by unfold Fr.upd; rw [Nat.beq_refl]; rfl
theorem upd_else {fr : Fr} {d d2 : Nat} {v : Value} (h : d2 ≠ d) : (fr.upd d v) d2 = fr d2 := by
  unfold Fr.upd
  cases hb : Nat.beq d2 d with
  | false => rfl
  | true => exact absurd (Nat.eq_of_beq_eq_true hb) h
theorem dstAt_of {l : List Oper} {j d : Nat} (h : (l[j]?).bind (·.dst) = some d) : dstAt l j = d := by simp [dstAt, h]
theorem out_next {l : List Oper} {m i : Nat} {o : Oper} {d : Nat} {v : Value} {listed : Array Bool} {fr fr' : Fr} (hi : i < m) (his : i < listed.size) (ho : l[i]? = some o) (hd : o.dst = some d) (hall : ∀ e ∈ o.after, Region.binds .any e = true → listed.getD e.on false = true)
    (h : ∀ i, i < m → listed.getD i true = false → ∀ d, outI l m i d = true → fr' d = fr d) : ∀ i', i' < m → (listed.setIfInBounds i true).getD i' true = false → ∀ d2, outI l m i' d2 = true → (fr'.upd d v) d2 = fr d2 := fun i' hi' hu d2 ho2 => by
  have hne : i ≠ i' := by
    rintro rfl
    simp [his] at hu
  rw [getD_set_ne true hne] at hu
  have hd2 : d2 ≠ d := by
    rintro rfl
    have := List.all_eq_true.1 ho2 i (List.mem_range.2 hi)
    rw [ho] at this
    simp only [Option.bind_some, hd, bne_self_eq_false, Bool.false_or] at this
    obtain ⟨e, he, hb, hon⟩ := dep_on ho this
    have h1 := hall e he hb
    rw [hon, getD_both hu] at h1
    cases h1
  rw [upd_else hd2]
  exact h i' hi' hu d2 ho2
theorem drawW_go {l : List Oper} {az : List AK} {ks : List WK} {E : List Nat} {w0 : Nat} (hsel : Region.noSelect l.toArray = true) (hnp : ∀ c fr H, ¬ Q (.panic c) fr H) (hle : SH.le Hb H) (hEs : PureWs P n fr Hb H l az E) (s : WSpec l az ks E w0) (steps : StepsW P n fr Hb H l az l az ks 0)
    (tail : ∀ (fr' : Fr) (T : Nat → Nat) (H' : SH), SH.le Hb H' → (∀ d, outB l az.length d = true → fr' d = fr d) → (∀ j, j < az.length → (aAt az j).isFresh = false → ((l[j]?).bind (·.dst)).isSome = true → (az.getD j (.val undef)).is H (fr' (dstAt l j)) T H') → (∃ u, (aAt az w0).is H u T H') → SOps P n l.toArray (l.drop az.length) fr' H' Q)
    (w1 : World) (H0 : SH) : ∀ (f : Nat) (listed : Array Bool) (fr' : Fr) (T : Nat → Nat) (H' : SH) (w : World), cntU listed az.length = f → HeadInv .any l.toArray az.length listed → St w1 H0 H' w → WInv fr Hb H l az w0 listed fr' T H' →
      wpAny P .any l.toArray (lift n w1 H0 Q) (f + (l.length - az.length)) listed (mkAct n fr') w := by
  intro f
  induction f with
  | zero =>
    intro listed fr' T H' w hf inv st v
    have hsz : listed.size = l.length := by simpa using inv.size
    have hl : listed = listedN l.length az.length := by
      apply Array.ext
      · simp [listedN, hsz]
      · intro i h1 h2
        simp only [listedN, Array.getElem_ofFn]
        by_cases hi : i < az.length
        · have := cntU_zero hf hi
          simp [h1] at this
          simp [this, hi]
        · have := inv.tail i (by omega) (by simpa [← hsz] using h1)
          simp [h1] at this
          simp [this, hi]
    have hall : ∀ j, j < az.length → listed.getD j false = true := fun j hj => by
      have := cntU_zero hf hj
      have hj' : j < listed.size := by have := s.len; omega
      simp [hj'] at this ⊢; exact this
    have ht := tail fr' T H' v.lb v.out (fun j hj hfr hd => by
      obtain ⟨d, hd⟩ := Option.isSome_iff_exists.1 hd
      rw [dstAt_of hd]
      exact v.fact j hj (hall j hj) (fun _ => hfr) d hd) (v.wf (hall w0 s.w)) w1 H0 w st
    rw [hl, Nat.zero_add]
    have hlen : (l.drop az.length).length = l.length - az.length := by simp
    have := wpAny_of_seq (md := .any) (Q' := lift n w1 H0 Q) (l.drop az.length) az.length (listedN l.length az.length) (mkAct n fr') w (fun j => by simp [List.getElem?_drop]) (by rw [hlen]; exact s.seq) ht
    rwa [hlen] at this
  | succ f ih =>
    intro listed fr' T H' w hf inv st v
    have hsz : listed.size = l.length := by simpa using inv.size
    have hlen := s.len
    have hw0l := s.w
    obtain ⟨i0, hi0, hu0, hlow⟩ := cntU_pos (listed := listed) (m := az.length) (by omega)
    -- the facts of what an operation waits for
    have deps : ∀ i o, i < az.length → l[i]? = some o → (∀ e ∈ o.after, Region.binds .any e = true → listed.getD e.on false = true) → ∀ j, depB l i j = true → (listed.getD w0 false = true → (aAt az j).isFresh = false) → ∀ d, (l[j]?).bind (·.dst) = some d → (az.getD j (.val undef)).is H (fr' d) T H' := fun i o hi ho hall j hj hk d hd => by
      obtain ⟨e, he, hb, hon⟩ := dep_on ho hj
      obtain ⟨o', ho', hed, _⟩ := s.op i hi
      obtain rfl : o' = o := by rw [ho] at ho'; exact (Option.some.inj ho').symm
      have hlt := hed e he hb
      have h1 := hall e he hb
      rw [hon] at hlt h1
      exact v.fact j (by omega) h1 hk d hd
    have depsV : ∀ i o, i < az.length → l[i]? = some o → (∀ e ∈ o.after, Region.binds .any e = true → listed.getD e.on false = true) → ∀ j, depV l i j = true → (listed.getD w0 false = true → (aAt az j).isFresh = false) → (az.getD j (.val undef)).is H (fr' (dstAt l j)) T H' := fun i o hi ho hall j hj hk => by
      unfold depV at hj
      rw [Bool.and_eq_true] at hj
      obtain ⟨d, hd⟩ := Option.isSome_iff_exists.1 hj.2
      rw [dstAt_of hd]
      exact deps i o hi ho hall j hj.1 hk d hd
    have ready0 : ∀ o, l[i0]? = some o → ∀ e ∈ o.after, Region.binds .any e = true → listed.getD e.on false = true := fun o ho e he hb => by
      obtain ⟨o', ho', hed, _⟩ := s.op i0 hi0
      obtain rfl : o' = o := by rw [ho] at ho'; exact (Option.some.inj ho').symm
      have hlt := hed e he hb
      have h1 := hlow e.on hlt
      have h2 : e.on < listed.size := by omega
      simp [h2] at h1 ⊢; exact h1
    -- what isn't behind the writer isn't run once it is listed
    have kk : ∀ i, i < az.length → listed.getD i true = false → kAt ks i = .b ∨ listed.getD w0 false = false := fun i hi hu => by
      cases hk : kAt ks i with
      | b => exact .inl rfl
      | w =>
        right
        have := s.one i hi hk
        subst this
        exact getD_both hu
      | d =>
        right
        cases hwl : listed.getD w0 false with
        | false => rfl
        | true =>
          have := d_before s inv hwl _ i rfl hi hk
          rw [getD_both hu] at this; cases this
    -- a step with a value
    have put : ∀ (i : Nat) (o : Oper) (d : Nat) (u : Value) (T' : Nat → Nat) (H'' : SH), i < az.length → i ≠ w0 → l[i]? = some o → o.dst = some d → (∀ e ∈ o.after, Region.binds .any e = true → listed.getD e.on false = true) → i < listed.size → SH.le H' H'' → (∀ b, H' b ≠ none → T' b = T b) → (aAt az i).is H u T' H'' → WInv fr Hb H l az w0 (listed.setIfInBounds i true) (fr'.upd d u) T' H'' := fun i o d u T' H'' hi hne ho hd hrd hsz1 hle' hT ha => by
      have hwne : (listed.setIfInBounds i true).getD w0 false = listed.getD w0 false := getD_set_ne false hne
      refine ⟨v.lb.trans hle', fun h => (v.la (by rw [← hwne]; exact h)).trans hle', fun d2 hd2 => (upd_out ho hd hi hd2).trans (v.out d2 hd2), out_next hi hsz1 ho hd hrd v.outi, fun j hj hl hfr dj hdj => ?_, fun h => ?_⟩
      rotate_left
      · rw [hwne] at h
        obtain ⟨u', hu'⟩ := v.wf h
        exact ⟨u', AK.is_mono hu' hle' hT⟩
      by_cases hji : j = i
      · subst hji
        have e : dj = d := by rw [ho] at hdj; simp only [Option.bind_some, hd] at hdj; exact (Option.some.inj hdj).symm
        rw [e, upd_self]; exact ha
      · rw [getD_set_ne false (Ne.symm hji)] at hl
        have hf1 := v.fact j hj hl (fun h => hfr (by rw [hwne]; exact h)) dj hdj
        obtain ⟨o', ho', _, _, hdist⟩ := s.op i hi
        obtain rfl : o' = o := by rw [ho] at ho'; exact (Option.some.inj ho').symm
        have h3 := hdist d hd j hj hji
        rw [upd_else (by rintro rfl; exact h3 hdj)]
        exact AK.is_mono hf1 hle' hT
    rw [show f + 1 + (l.length - az.length) = (f + (l.length - az.length)) + 1 by omega]
    have his0 : i0 < listed.size := by omega
    cases hE0 : E.contains i0 with
    | true =>
      have hmem : i0 ∈ E := List.contains_iff_mem.1 hE0
      have hne : i0 ≠ w0 := by rintro rfl; rw [s.ew] at hE0; cases hE0
      obtain ⟨o, u, ho, hav, hfree, hpure⟩ := hEs.get i0 hmem
      obtain ⟨o', ho', hed, hs', _⟩ := s.op i0 hi0
      obtain rfl : o' = o := by rw [ho] at ho'; exact (Option.some.inj ho').symm
      obtain ⟨d, hd⟩ := hs' hne
      have hi : i0 ∈ Region.ready .any l.toArray listed := mem_ready.2 ⟨hu0, o', by simpa using ho, ready0 o' ho⟩
      obtain ⟨hg, hx⟩ := hpure fr' T H' v.lb (v.outi i0 hi0 hu0) (fun j hj hf => depsV i0 o' hi0 ho (ready0 o' ho) j hj fun _ => hf)
      refine wpAny_take (oi := o') (v := u) (by simpa using ho) hsel (free_more hlow hfree) (by simpa using hi) ?_ (.inl ⟨by rw [want_mkAct]; exact hg, fun w => by rw [eval_mkAct]; exact hx w⟩) ?_
      · rintro c a w' ⟨fr2, H2, _, _, q⟩
        exact absurd q (hnp _ _ _)
      · rw [hd, put_mkAct]
        exact ih _ _ T H' w (by have := cntU_set his0 hu0 hi0; omega) (inv.set hi hi0) st (put i0 o' d u T H' hi0 hne ho hd (ready0 o' ho) his0 (.refl _) (fun _ _ => rfl) (by unfold aAt; rw [hav]; rfl))
    | false =>
    refine ⟨fun h => ?_, fun i hi => ?_⟩
    · obtain ⟨o, ho, _⟩ := s.op i0 hi0
      have : i0 ∈ Region.ready .any l.toArray listed := mem_ready.2 ⟨hu0, o, by simpa using ho, ready0 o ho⟩
      rw [h] at this; cases this
    obtain ⟨hun, oi, hoi, hall⟩ := mem_ready.1 hi
    have hoi' : l[i]? = some oi := by simpa using hoi
    have hil : i < l.length := (List.getElem?_eq_some_iff.1 hoi').1
    have him : i < az.length := by
      rcases Nat.lt_or_ge i az.length with h | h
      · exact h
      · rcases s.fin with he | ⟨h1, h2⟩
        · omega
        · exact absurd hi (tail_waitsE h1 h2 (by simp; omega) inv _ i0 rfl hi0 hE0 hu0 i h)
    have his : i < listed.size := by omega
    have hstep := StepsW.get az l ks 0 steps i oi him hoi'
    rw [Nat.zero_add] at hstep
    have hkk := kk i him hun
    -- behind a step with a value
    have fin : ∀ (Q2 : Post), SOps P n l.toArray [oi] fr' H' Q2 → (∀ e fr'' H'', Q2 e fr'' H'' → e = .normal ∧ ∃ T', WInv fr Hb H l az w0 (listed.setIfInBounds i true) fr'' T' H'') → wpOp P l.toArray (lift n w1 H0 Q) i (wpAny P .any l.toArray (lift n w1 H0 Q) (f + (l.length - az.length)) (listed.setIfInBounds i true)) (mkAct n fr') w := fun Q2 h1 h2 => by
      have h1 := h1 w1 H0 w st
      have key : ∀ (a' : Act) (w' : World), lift n w1 H0 Q2 .normal a' w' → wpAny P .any l.toArray (lift n w1 H0 Q) (f + (l.length - az.length)) (listed.setIfInBounds i true) a' w' := by
        rintro a' w' ⟨fr'', H'', rfl, st'', q⟩
        obtain ⟨_, T', v'⟩ := h2 _ fr'' H'' q
        exact ih _ _ T' H'' w' (by have := cntU_set his hun him; omega) (inv.set hi him) st'' v'
      unfold wpOp
      simp only [hoi]
      unfold wpList at h1
      split
      · rename_i hw
        rw [if_pos hw] at h1
        rcases h1 with h1 | h1
        · refine .inl (wp_of_step h1 key ?_ ?_)
          · rintro c a' w' ⟨_, _, _, _, q⟩; exact absurd (h2 _ _ _ q).1 (by simp)
          · rintro ⟨a', w', _, _, _, _, q⟩; exact absurd (h2 _ _ _ q).1 (by simp)
        · obtain ⟨_, a', w', _, _, _, _, q⟩ := h1; exact absurd (h2 _ _ _ q).1 (by simp)
      · rename_i hw
        rw [if_neg hw] at h1
        exact key _ _ h1
    cases hk : kAt ks i with
    | d =>
      rw [hk] at hstep
      have hstep : StepD P n fr H l az i oi (az.getD i (.val undef)) := hstep
      have hne : i ≠ w0 := by rintro rfl; rw [s.kw] at hk; cases hk
      have hwl : listed.getD w0 false = false := by
        rcases hkk with h | h
        · rw [hk] at h; cases h
        · exact h
      obtain ⟨o', ho', _, hs', _⟩ := s.op i him
      obtain rfl : o' = oi := by rw [hoi'] at ho'; exact (Option.some.inj ho').symm
      obtain ⟨d, hd⟩ := hs' hne
      have hdi : dstAt l i = d := by simp [dstAt, hoi', hd]
      have hdw : ∀ j, depB l i j = true → ∃ dj, (l[j]?).bind (·.dst) = some dj := fun j hj => by
        obtain ⟨e, he, hb, hon⟩ := dep_on hoi' hj
        obtain ⟨o2, ho2, hed, _⟩ := s.op i him
        obtain rfl : o2 = o' := by rw [hoi'] at ho2; exact (Option.some.inj ho2).symm
        have hlt := hed e he hb
        have hiw := (s.dd i him hk).1
        obtain ⟨oj, hoj, _, hsj, _⟩ := s.op j (by omega)
        obtain ⟨dj, hdj⟩ := hsj (by omega)
        exact ⟨dj, by rw [hoj]; exact hdj⟩
      have h1 := hstep fr' T H' (v.la hwl) (v.outi i him hun) (fun j hj => by
        obtain ⟨dj, hdj⟩ := hdw j hj
        rw [dstAt_of hdj]
        exact deps i o' him hoi' hall j hj (fun h => by rw [hwl] at h; cases h) dj hdj)
      refine fin _ h1 fun e fr'' H'' q => ?_
      cases e <;> first | exact q.elim | skip
      obtain ⟨u, rfl, T', h3, h4, h5⟩ := q
      rw [hdi]
      exact ⟨rfl, T', put i o' d u T' H'' him hne hoi' hd hall his h3 h4 h5⟩
    | b =>
      rw [hk] at hstep
      have hstep : StepB P n fr Hb H l az i oi (az.getD i (.val undef)) := hstep
      have hne : i ≠ w0 := by rintro rfl; rw [s.kw] at hk; cases hk
      obtain ⟨o', ho', _, hs', _⟩ := s.op i him
      obtain rfl : o' = oi := by rw [hoi'] at ho'; exact (Option.some.inj ho').symm
      obtain ⟨d, hd⟩ := hs' hne
      have hdi : dstAt l i = d := by simp [dstAt, hoi', hd]
      have h1 := hstep fr' T H' v.lb (v.outi i him hun) (fun j hj hf => depsV i o' him hoi' hall j hj fun _ => hf)
      refine fin _ h1 fun e fr'' H'' q => ?_
      cases e <;> first | exact q.elim | skip
      obtain ⟨u, rfl, T', h3, h4, h5⟩ := q
      rw [hdi]
      exact ⟨rfl, T', put i o' d u T' H'' him hne hoi' hd hall his h3 h4 h5⟩
    | w =>
      rw [hk] at hstep
      have hstep : StepW P n fr Hb H l az i oi (az.getD i (.val undef)) := hstep
      have hiw := s.one i him hk
      subst hiw
      have hwl : listed.getD i false = false := getD_both hun
      obtain ⟨o', ho', _, _, hdist⟩ := s.op i him
      obtain rfl : o' = oi := by rw [hoi'] at ho'; exact (Option.some.inj ho').symm
      have h1 := hstep fr' T H' (v.la hwl) (v.outi i him hun) (fun j hj => depsV i o' him hoi' hall j hj fun h => by rw [hwl] at h; cases h)
      -- what was known of the others stays
      have stay : ∀ (fr'' : Fr) (H'' : SH), SH.le Hb H'' → (∀ j, j ≠ i → j < az.length → ∀ dj, (l[j]?).bind (·.dst) = some dj → fr'' dj = fr' dj) → (∀ d2, outB l az.length d2 = true → fr'' d2 = fr d2) → (∀ i', i' < az.length → (listed.setIfInBounds i true).getD i' true = false → ∀ d2, outI l az.length i' d2 = true → fr'' d2 = fr d2) → (∀ d, o'.dst = some d → (az.getD i (.val undef)).is H (fr'' d) T H'') → (∃ u, (az.getD i (.val undef)).is H u T H'') → WInv fr Hb H l az i (listed.setIfInBounds i true) fr'' T H'' := fun fr'' H'' g1 g2 g3 g5 g4 g6 => by
        have hset : (listed.setIfInBounds i true).getD i false = true := by simp [his]
        refine ⟨g1, fun h => (by rw [hset] at h; cases h), g3, g5, fun j hj hl hfr dj hdj => ?_, fun _ => g6⟩
        by_cases hji : j = i
        · subst hji
          rw [hoi'] at hdj
          exact g4 dj (by simpa using hdj)
        · rw [getD_set_ne false (Ne.symm hji)] at hl
          have hf1 := v.fact j hj hl (fun h => by rw [hwl] at h; cases h) dj hdj
          have hfresh := hfr hset
          rw [g2 j hji hj dj hdj]
          cases ha : aAt az j with
          | val x => rw [ha] at hf1; exact hf1
          | fresh a b c d => rw [ha] at hfresh; cases hfresh
          | rel p mono =>
            exfalso
            have := rel_after s inv j hj (by rw [ha]; rfl) hl
            rw [hwl] at this; cases this
      refine fin _ h1 fun e fr'' H'' q => ?_
      · cases e <;> first | exact q.elim | skip
        refine ⟨rfl, T, ?_⟩
        unfold writQ at q
        cases hd : o'.dst with
        | some d =>
          simp only [hd] at q
          obtain ⟨u, rfl, g1, g2⟩ := q
          refine stay _ _ g1 (fun j hji hj dj hdj => upd_else (by rintro rfl; exact hdist _ hd j hj hji hdj)) (fun d2 hd2 => (upd_out hoi' hd him hd2).trans (v.out d2 hd2)) (out_next him his hoi' hd hall v.outi) (fun d2 hd2 => ?_) ⟨u, g2⟩
          rw [hd] at hd2; cases hd2
          rw [upd_self]; exact g2
        | none =>
          simp only [hd] at q
          obtain ⟨rfl, u, g1, g6⟩ := q
          exact stay _ _ g1 (fun _ _ _ _ _ => rfl) v.out (fun i' hi' hu d2 ho2 => v.outi i' hi' (by have hne : i ≠ i' := (by rintro rfl; simp [his] at hu); rwa [getD_set_ne true hne] at hu) d2 ho2) (fun d hd2 => by rw [hd] at hd2; cases hd2) ⟨u, g6⟩
/-- **The region**, with one operation that writes. -/
theorem SW.drawW {id : Nat} {l : List Oper} (E : List Nat) (az : List AK) (ks : List WK) (w0 : Nat) (Hb : SH) (hm : P.follows .mixedOrders = true) (hB : drawWB l az ks E w0 = true) (hsel : Region.noSelect l.toArray = true) (hle : SH.le Hb H)
    (hEs : PureWs P n fr Hb H l az E) (steps : StepsW P n fr Hb H l az l az ks 0)
    (tail : ∀ (fr' : Fr) (T : Nat → Nat) (H' : SH), SH.le Hb H' → (∀ d, outB l az.length d = true → fr' d = fr d) → (∀ j, j < az.length → (aAt az j).isFresh = false → ((l[j]?).bind (·.dst)).isSome = true → (az.getD j (.val undef)).is H (fr' (dstAt l j)) T H') → (∃ u, (aAt az w0).is H u T H') → SOps P n l.toArray (l.drop az.length) fr' H' (np Q)) :
    SW P n (.region id l.toArray true) fr H Q := SW.mono (Q := np Q) (fun w0' H0 w st => by
  have sp := drawWB_spec hB
  have hml := sp.len
  refine wp_region_any hm ?_
  have hc : cntU (Array.replicate l.length false) az.length = az.length := by
    unfold cntU
    rw [List.countP_eq_length.2]
    · simp
    · intro j hj
      have : j < l.length := by have := List.mem_range.1 hj; omega
      simp [this]
  have hnl : ∀ j, (Array.replicate l.length false).getD j false = false := getD_replicate_false _
  have := drawW_go (Q := np Q) hsel (fun _ _ _ q => q) hle hEs sp steps tail w0' H0 az.length (Array.replicate l.length false) fr (fun _ => 0) H { w with drawn := w.drawn + 1 } hc
    ⟨by simp, fun j oj _ hl => (by rw [hnl] at hl; cases hl), fun t _ ht => getD_in (by simpa using ht) (getD_replicate_false _ _)⟩
    ⟨st.os, st.tape, st.output, st.size, st.keep, st.sat, st.own⟩ ⟨hle, fun _ => .refl H, fun _ _ => rfl, fun _ _ _ _ _ => rfl, fun j _ hl => (by rw [hnl] at hl; cases hl), fun h => (by rw [hnl] at h; cases h)⟩
  rw [show az.length + (l.length - az.length) = l.toArray.size by simp; omega] at this
  simpa using this) fun _ _ _ h => np_of h
end
/-! ### the writer's step -/
section
variable {P : Program} {n : Nat} {ops : Array Oper} {o : Oper} {fr' : Fr} {H Hb Hc H' : SH} {T : Nat → Nat} {d : Nat}
def relR (R : Sl → SH → Prop) : SH → Value → (Nat → Nat) → SH → Prop := fun _ v _ H8 => ∃ l, v = sv l ∧ R l H8
theorem AppendQ.ex {E s b : Nat} {l : Sl} {k : Nat} {w : List Value} {B : Sl → SH → Prop} (h : AppendQ H E s b l k w (fun l1 H1 => SH.le Hb H1 ∧ B l1 H1)) : ∃ R : Sl → SH → Prop, (∀ l1 H1 H2, R l1 H1 → SH.le H1 H2 → R l1 H2) ∧ AppendQ H E s b l k w (fun l1 H1 => SH.le Hb H1 ∧ R l1 H1) ∧ ∀ l1 H', R l1 H' → ∃ H1, SH.le H1 H' ∧ B l1 H1 :=
  ⟨fun l1 H' => ∃ H1, SH.le H1 H' ∧ B l1 H1, fun _ _ _ ⟨H0, h1, h2⟩ h3 => ⟨H0, h1.trans h3, h2⟩, AppendQ.mono h (by rintro l1 H1 ⟨h1, h2⟩; exact ⟨h1, H1, .refl _, h2⟩), fun _ _ h => h⟩
theorem AppendQ.ex1 {E s b : Nat} {l : Sl} {k : Nat} {w : List Value} {B : Sl → SH → Prop} {ao : AO} (h : ∀ q, H q = none → AppendQ (SH.upd H q ao) E s b l k w (fun l1 H1 => SH.le Hb H1 ∧ B l1 H1)) : ∃ R : Sl → SH → Prop, (∀ l1 H1 H2, R l1 H1 → SH.le H1 H2 → R l1 H2) ∧ (∀ q, H q = none → AppendQ (SH.upd H q ao) E s b l k w (fun l1 H1 => SH.le Hb H1 ∧ R l1 H1)) ∧ ∀ l1 H', R l1 H' → ∃ H1, SH.le H1 H' ∧ B l1 H1 :=
  ⟨fun l1 H' => ∃ H1, SH.le H1 H' ∧ B l1 H1, fun _ _ _ ⟨H0, h1, h2⟩ h3 => ⟨H0, h1.trans h3, h2⟩, fun q hq => AppendQ.mono (h q hq) (by rintro l1 H1 ⟨h1, h2⟩; exact ⟨h1, H1, .refl _, h2⟩), fun _ _ h => h⟩
theorem AppendQ.ex2 {E s b : Nat} {l : Nat → Sl} {k : Nat} {w : List Value} {B : Sl → SH → Prop} {ao : AO} (h : ∀ q, H q = none → AppendQ (SH.upd H q ao) E s b (l q) k w (fun l1 H1 => SH.le Hb H1 ∧ B l1 H1)) : ∃ R : Sl → SH → Prop, (∀ l1 H1 H2, R l1 H1 → SH.le H1 H2 → R l1 H2) ∧ (∀ q, H q = none → AppendQ (SH.upd H q ao) E s b (l q) k w (fun l1 H1 => SH.le Hb H1 ∧ R l1 H1)) ∧ ∀ l1 H', R l1 H' → ∃ H1, SH.le H1 H' ∧ B l1 H1 :=
  ⟨fun l1 H' => ∃ H1, SH.le H1 H' ∧ B l1 H1, fun _ _ _ ⟨H0, h1, h2⟩ h3 => ⟨H0, h1.trans h3, h2⟩, fun q hq => AppendQ.mono (h q hq) (by rintro l1 H1 ⟨h1, h2⟩; exact ⟨h1, H1, .refl _, h2⟩), fun _ _ h => h⟩
theorem rowLeD {H H' : SH} {a : Option (Nat × Nat)} {cs : List Value} (h : H.row a cs) (hle : SH.le H H') : H'.row a cs := by
  rcases h with h | ⟨p, o, h1, h2, h3⟩
  · exact .inl h
  · exact .inr ⟨p, o, h1, hle _ _ h2, h3⟩
theorem le_updD {H : SH} {b : Nat} {o : AO} (h : H b = none) : SH.le H (H.upd b o) := fun c oc hc => by rw [SH.upd_ne _ _ (by rintro rfl; rw [h] at hc; cases hc)]; exact hc
theorem SA.wapp {R : Sl → SH → Prop} {p : SH → Value → (Nat → Nat) → SH → Prop} {mono : ∀ H v T T' H1 H2, p H v T H1 → SH.le H1 H2 → (∀ b, H1 b ≠ none → T' b = T b) → p H v T' H2} (hl : SH.le Hc H') (hd : o.dst = some d) (hp : ∀ l1 H1, R l1 H1 → p H (sv l1) T H1)
    (h : ∀ {Q' : Post}, (∀ l1 H1, SH.le Hb H1 → R l1 H1 → SOps P n ops [] (fr'.upd d (sv l1)) H1 Q') → SOps P n ops [o] fr' Hc Q') :
    SOps P n ops [o] fr' H' (writQ o fr' fun v H'' => SH.le Hb H'' ∧ (AK.rel p mono).is H v T H'') := by
  refine SOps.forget Hc hl (h fun l1 H1 h1 h2 => SOps.nil ?_)
  unfold writQ
  simp only [hd]
  exact ⟨_, rfl, h1, hp l1 H1 h2⟩
theorem SA.wst {p : SH → Value → (Nat → Nat) → SH → Prop} {mono : ∀ H v T T' H1 H2, p H v T H1 → SH.le H1 H2 → (∀ b, H1 b ≠ none → T' b = T b) → p H v T' H2} (hl : SH.le Hc H') (hd : o.dst = none) (hp : ∀ H1, p H undef T H1)
    (h : ∀ {Q' : Post}, (∀ H1, SH.le Hb H1 → SOps P n ops [] fr' H1 Q') → SOps P n ops [o] fr' Hc Q') :
    SOps P n ops [o] fr' H' (writQ o fr' fun v H'' => SH.le Hb H'' ∧ (AK.rel p mono).is H v T H'') := by
  refine SOps.forget Hc hl (h fun H1 h1 => SOps.nil ?_)
  unfold writQ
  simp only [hd]
  exact ⟨trivial, undef, h1, hp H1⟩
theorem SA.wst2 {X : SH} {p : SH → Value → (Nat → Nat) → SH → Prop} {mono : ∀ H v T T' H1 H2, p H v T H1 → SH.le H1 H2 → (∀ b, H1 b ≠ none → T' b = T b) → p H v T' H2} (hl : SH.le Hc H') (hd : o.dst = none) (hp : ∀ H1, SH.le X H1 → p H undef T H1)
    (h : ∀ {Q' : Post}, (SH.le Hb X → SOps P n ops [] fr' X Q') → SOps P n ops [o] fr' Hc Q') :
    SOps P n ops [o] fr' H' (writQ o fr' fun v H'' => SH.le Hb H'' ∧ (AK.rel p mono).is H v T H'') := by
  refine SOps.forget Hc hl (h fun h1 => SOps.nil ?_)
  unfold writQ
  simp only [hd]
  exact ⟨trivial, undef, h1, hp X (.refl _)⟩
end
/-- A slice with any address. -/
structure SlW where
  a : Option Addr
  len : Nat
  cap : Nat
def swv (l : SlW) : Value := .slice l.a l.len l.cap
theorem ev_iaddrW {P : Program} {ρ : Operand → Value} {o : Oper} {T E : TypeId} {x ix : Operand} (ho : o.op = .indexAddr T x ix) (hT : P.underlying T = some (.slice E)) {size : Nat} (hs : (P.info? E).map (·.size) = some size) {s : SlW} {p : Nat × Nat} {k : IntKind} {i : Int}
    (hx : ρ x = swv s) (hi : ρ ix = .int k i) (hp : s.a = some (ad p)) (h0 : 0 ≤ i) (h1 : i < s.len) (w : World) :
    (execOp ρ o).run P w = .ok (.value (pv (some (p.1, p.2 + i.toNat * size)))) w :=
  ev_iaddr (s := ⟨some p, s.len, s.cap⟩) ho hT hs (by rw [hx]; unfold swv; rw [hp]; rfl) hi rfl h0 h1 w
def SlW.sub (size : Nat) (s : SlW) (l h m : Nat) : SlW := ⟨if m = l then s.a else s.a.map (fun a => a.add (l * size)), h - l, m - l⟩
theorem ev_subW {P : Program} {ρ : Operand → Value} {o : Oper} {T E : TypeId} {x : Operand} {lo hi : Option Operand} (ho : o.op = .slice T x lo hi none) (hT : P.underlying T = some (.slice E)) {size : Nat} (hs : (P.info? E).map (·.size) = some size) {s : SlW} {a b : Int} (hx : ρ x = swv s)
    (hlo : (lo.map ρ = none ∧ a = 0) ∨ ∃ k, lo.map ρ = some (.int k a)) (hhi : (hi.map ρ = none ∧ b = s.len) ∨ ∃ k, hi.map ρ = some (.int k b)) (h0 : 0 ≤ a) (h1 : a ≤ b) (h2 : b ≤ s.cap) (w : World) :
    (execOp ρ o).run P w = .ok (.value (swv (s.sub size a.toNat b.toNat s.cap))) w := by
  obtain ⟨inf, hinf, rfl⟩ := Option.map_eq_some_iff.1 hs
  have hb0 : 0 ≤ b := by omega
  have hbb : ((b.toNat : Nat) : Int) = b := by omega
  unfold execOp
  simp only [ho, hx, swv, Sem.run_bind, Instr.sliceAt, run_underlying hT, Result.andThen_ok, Instr.slice, Option.map_none, Option.isSome_none, Bool.false_eq_true, if_false, Instr.sliceBounds]
  rcases hlo with ⟨hlo, rfl⟩ | ⟨k, hlo⟩ <;> rcases hhi with ⟨hhi, rfl⟩ | ⟨k', hhi⟩ <;> simp [hlo, hhi, Instr.sliceBound, asIntOf, h0, h1, h2, hb0, hbb, sizeOf, typeInfo, hinf, SlW.sub, -Int.ofNat_toNat]
/-- A struct with one error that isn't told. -/
theorem ev_buildE {ρ : Operand → Value} {o : Oper} {t : TypeId} {parts : Array (Nat × Operand)} {vals : Value → Array (Nat × Value)} {f : Value → Value} (ho : o.op = .build t parts) (e : Option EV) (hp : parts.map (fun x => (x.1, ρ x.2)) = vals (errV e))
    (h : ∀ u : Value, (u = .nilIface ∨ ∃ t v, u = .iface t v) → ∀ w, (Instr.build t (vals u)).run Try.prog w = .ok (f u) w) (w : World) : (execOp ρ o).run Try.prog w = .ok (.value (f (errV e))) w := by
  have hu : errV e = .nilIface ∨ ∃ t v, errV e = .iface t v := by
    cases e with
    | none => exact .inl rfl
    | some e => cases e <;> exact .inr ⟨_, _, rfl⟩
  unfold execOp
  simp only [ho, Sem.run_bind]
  rw [hp, h _ hu w]; rfl
/-! ### a call that writes -/
def WR {α : Type} (B : α → SH → Prop) (a : α) (H' : SH) : Prop := ∃ H1, SH.le H1 H' ∧ B a H1
theorem WR.mono {α : Type} {B : α → SH → Prop} (a : α) (H1 H2 : SH) : WR B a H1 → SH.le H1 H2 → WR B a H2 := fun ⟨H0, h1, h2⟩ h3 => ⟨H0, h1.trans h3, h2⟩
def WRb {α : Type} (B : α → SH → Prop) (mk : α → AO) (a : α) (b : Nat) (H' : SH) : Prop := ∃ H1, H1 b = none ∧ SH.le (SH.upd H1 b (mk a)) H' ∧ B a H1
theorem WRb.mono {α : Type} {B : α → SH → Prop} {mk : α → AO} (a : α) (b : Nat) (H1 H2 : SH) : WRb B mk a b H1 → SH.le H1 H2 → WRb B mk a b H2 := fun ⟨H0, h0, h1, h2⟩ h3 => ⟨H0, h0, h1.trans h3, h2⟩
theorem SH.le.upd2 {H0 H : SH} (h : SH.le H0 H) (b : Nat) (o : AO) : SH.le (H0.upd b o) (H.upd b o) := fun c oc hc => by
  by_cases hcb : c = b
  · subst hcb; rw [SH.upd_same] at hc ⊢; exact hc
  · rw [SH.upd_ne _ _ hcb] at hc ⊢; exact h c oc hc
theorem WR.block {α : Type} {B : α → SH → Prop} {mk : α → AO} {a : α} {b : Nat} {H' : SH} (h : WR B a H') (hb : H' b = none) : WRb B mk a b (H'.upd b (mk a)) := by
  obtain ⟨H1, h1, h2⟩ := h
  refine ⟨H1, ?_, h1.upd2 _ _, h2⟩
  cases hc : H1 b with
  | none => rfl
  | some o => rw [h1 b o hc] at hb; cases hb
theorem exB {α : Type} {Hb : SH} (W : (α → SH → Prop) → Prop) {B : α → SH → Prop} (h : W (fun a H1 => SH.le Hb H1 ∧ B a H1)) : ∃ B1 : α → SH → Prop, W (fun a H1 => SH.le Hb H1 ∧ B1 a H1) ∧ ∀ a H1, B1 a H1 → B a H1 := ⟨B, h, fun _ _ h => h⟩
section
variable {P : Program} {n : Nat} {ops : Array Oper} {o : Oper} {fr' : Fr} {H Hb Hc H' : SH} {T : Nat → Nat} {d : Nat}
theorem SA.wcall {α : Type} {B : α → SH → Prop} {vv : α → Value} {g : FuncId} {args : Array Value} {p : SH → Value → (Nat → Nat) → SH → Prop} {mono : ∀ H v T T' H1 H2, p H v T H1 → SH.le H1 H2 → (∀ b, H1 b ≠ none → T' b = T b) → p H v T' H2} (hl : SH.le Hc H') (hd : o.dst = some d) (hg : wantF n ops fr' o = true) (hx : ∀ w, (execOp (evF n fr') o).run P w = .ok (.enter g args) w)
    (hp : ∀ a H1, WR B a H1 → p H (vv a) T H1) (hc : SCalls P g args Hc fun v H1 => ∃ a, v = vv a ∧ SH.le Hb H1 ∧ B a H1) :
    SOps P n ops [o] fr' H' (writQ o fr' fun v H'' => SH.le Hb H'' ∧ (AK.rel p mono).is H v T H'') := by
  refine SOps.forget Hc hl (SOps.enter hd hg hx hc ?_)
  rintro v H1 ⟨a, rfl, h1, h2⟩
  refine SOps.nil ?_
  unfold writQ
  simp only [hd]
  exact ⟨_, rfl, h1, hp a H1 ⟨H1, .refl _, h2⟩⟩
theorem SA.freshW {mk : Nat → Value} {ao : AO} {p : SH → Value → (Nat → Nat) → SH → Prop} {mono : ∀ H v T T' H1 H2, p H v T H1 → SH.le H1 H2 → (∀ b, H1 b ≠ none → T' b = T b) → p H v T' H2}
    (hp : ∀ b, H' b = none → p H (mk b) T (H'.upd b ao))
    (h : ∀ {Q' : Post}, (∀ b, H' b = none → SOps P n ops [] (fr'.upd d (mk b)) (H'.upd b ao) Q') → SOps P n ops [o] fr' H' Q') :
    SOps P n ops [o] fr' H' (stepQ fr' d fun u H'' => ∃ T', SH.le H' H'' ∧ (∀ b, H' b ≠ none → T' b = T b) ∧ (AK.rel p mono).is H u T' H'') := by
  refine h fun b hb => SOps.nil ⟨mk b, rfl, T, fun b' oc hc' => ?_, fun _ _ => rfl, hp b hb⟩
  rw [SH.upd_ne _ _ (by rintro rfl; rw [hb] at hc'; cases hc')]; exact hc'
end
end Go.Proofs.Ytpnbehgkbfhacaa.K
