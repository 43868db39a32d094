/- A small kit of my own for walks: heaps as maps of blocks, frames as functions, one rule for each form of code. -/
import Derived.Tactics
import Derived.Deep.Quiet
import Derived.Below
import Derived.KernelRfl
import Derived.Laws.AppendOwn
set_option linter.unusedVariables false
set_option linter.unusedSimpArgs false
namespace Go.Proofs.Ytpnbehgkbfhacaa.K
open Go

/-! ### heaps -/
/-- Is it a map? With which keys and values. (A class, so that ⟨cells, ty, ro, size⟩ is a block of cells.) -/
class MP where
  val : Option (List (Value × Value))
instance MP.no : MP := ⟨none⟩
structure AO where
  cells : List Value      -- what is known: the block's first cells
  ty : TypeId
  ro : Bool               -- is it only read?
  size : Nat              -- how many cells the block has in all
  [mp : MP]
/-- A map. -/
def AO.map (es : List (Value × Value)) : AO := @AO.mk [] 0 true 0 ⟨some es⟩
/-- It stays as it is. -/
def AO.fix (o : AO) : Bool := o.ro && o.mp.val.isNone
def entsOf (es : List MapEntry) : List (Value × Value) := es.map fun e => (e.key, e.val)

def SH := Nat → Option AO

def SH.upd (H : SH) (b : Nat) (o : AO) : SH := fun c => bif Nat.beq c b then some o else H c
theorem SH.upd_same (H : SH) (b : Nat) (o : AO) : (H.upd b o) b = some o := by simp [SH.upd]
theorem SH.upd_ne (H : SH) {b c : Nat} (o : AO) (h : c ≠ b) : (H.upd b o) c = H c := by
  unfold SH.upd
  cases hc : Nat.beq c b with
  | false => rfl
  | true => exact absurd (Nat.eq_of_beq_eq_true hc) h
theorem SH.upd_upd (H : SH) (b : Nat) (o o' : AO) : (H.upd b o).upd b o' = H.upd b o' := by
  funext c; unfold SH.upd; cases Nat.beq c b <;> rfl

/-- Bytes. -/
def U8 : TypeId := 5
def SatO (o : AO) (x : Option Obj) : Prop :=
  match o.mp.val with
  | none => ∃ rest fz, x = some (.cells (o.cells ++ rest).toArray o.ty fz) ∧ (o.cells ++ rest).length = o.size ∧ (o.ro = false → ∀ i, (i < o.size ∨ o.ty ≠ U8) → ¬ (fz.1 ≤ i ∧ i < fz.2))
  | some es => (o.cells = [] ∧ o.ro = true ∧ o.size = 0) ∧ ∃ (a : Array MapEntry) (c : Nat), x = some (.map a c) ∧ entsOf a.toList = es
theorem SatO.mk {o : AO} {x : Option Obj} (hm : o.mp.val = none) (h : ∃ rest fz, x = some (.cells (o.cells ++ rest).toArray o.ty fz) ∧ (o.cells ++ rest).length = o.size ∧ (o.ro = false → ∀ i, (i < o.size ∨ o.ty ≠ U8) → ¬ (fz.1 ≤ i ∧ i < fz.2))) : SatO o x := by
  unfold SatO; rw [hm]; exact h
theorem SatO.got {o : AO} {x : Option Obj} (h : SatO o x) (hm : o.ro = false ∨ o.cells ≠ [] ∨ o.size ≠ 0) : o.mp.val = none ∧ ∃ rest fz, x = some (.cells (o.cells ++ rest).toArray o.ty fz) ∧ (o.cells ++ rest).length = o.size ∧ (o.ro = false → ∀ i, (i < o.size ∨ o.ty ≠ U8) → ¬ (fz.1 ≤ i ∧ i < fz.2)) := by
  unfold SatO at h
  split at h
  · rename_i hn; exact ⟨hn, h⟩
  · obtain ⟨⟨h1, h2, h3⟩, _⟩ := h
    rcases hm with hm | hm | hm
    · rw [h2] at hm; cases hm
    · exact absurd h1 hm
    · exact absurd h3 hm
theorem SatO.is {o : AO} {x : Option Obj} (h : SatO o x) : x ≠ none := by
  unfold SatO at h
  split at h
  · obtain ⟨_, _, h, _⟩ := h; rw [h]; exact fun h => by cases h
  · obtain ⟨_, _, _, h, _⟩ := h; rw [h]; exact fun h => by cases h
def Sat (H : SH) (w : World) : Prop := ∀ b o, H b = some o → SatO o w.heap[b]?

theorem Sat.lt {H : SH} {w : World} (h : Sat H w) {b : Nat} {o : AO} (hb : H b = some o) : b < w.heap.size := by
  rcases Nat.lt_or_ge b w.heap.size with h' | h'
  · exact h'
  · exact absurd (Array.getElem?_eq_none h') (h b o hb).is

/-- What is reached from 'w0', where 'H0' was owned: now 'H' is. -/
structure St (w0 : World) (H0 H : SH) (w : World) : Prop where
  os : w.os = w0.os
  tape : w.tape = w0.tape
  output : w.output = w0.output
  size : w0.heap.size ≤ w.heap.size
  keep : ∀ b, b < w0.heap.size → (∀ o, H0 b = some o → o.fix = true) → w.heap[b]? = w0.heap[b]?
  sat : Sat H w
  own : ∀ b o, H b = some o → (∃ o0, H0 b = some o0 ∧ (o.fix = false → o0.fix = false)) ∨ w0.heap.size ≤ b

theorem St.refl {H : SH} {w : World} (h : Sat H w) : St w H H w :=
  ⟨rfl, rfl, rfl, Nat.le_refl _, fun _ _ _ => rfl, h, fun b o hb => .inl ⟨o, hb, id⟩⟩

theorem St.trans {w0 w1 w2 : World} {H0 H1 H2 : SH} (h : St w0 H0 H1 w1) (k : St w1 H1 H2 w2) : St w0 H0 H2 w2 where
  os := k.os.trans h.os
  tape := k.tape.trans h.tape
  output := k.output.trans h.output
  size := Nat.le_trans h.size k.size
  keep := fun b hb hr => by
    refine (k.keep b (Nat.lt_of_lt_of_le hb h.size) fun o ho => ?_).trans (h.keep b hb hr)
    cases hro : o.fix with
    | true => rfl
    | false =>
      rcases h.own b o ho with ⟨o0, h0, h1⟩ | h1
      · have := hr o0 h0; rw [h1 hro] at this; cases this
      · omega
  sat := k.sat
  own := fun b o hb => by
    rcases k.own b o hb with ⟨o1, h1, h2⟩ | h1
    · rcases h.own b o1 h1 with ⟨o0, h0, h3⟩ | h3
      · exact .inl ⟨o0, h0, fun hr => h3 (h2 hr)⟩
      · exact .inr h3
    · exact .inr (Nat.le_trans h.size h1)

/-- Nothing that was there has turned: what a row asks. -/
theorem St.below {w0 w : World} {H0 H : SH} (h : St w0 H0 H w) (hr : ∀ b o, H0 b = some o → o.fix = true) : RowKit.Below w0.heap.size w0 w :=
  ⟨h.os, h.tape, h.output, h.size, fun b hb => h.keep b hb (hr b)⟩

/-! ### calls -/
def SCalls (P : Program) (f : FuncId) (args : Array Value) (H : SH) (R : Value → SH → Prop) : Prop :=
  ∀ w, Sat H w → Calls P f args w fun e w' => ∃ v H', e = .returned v ∧ St w H H' w' ∧ R v H'

theorem SCalls.mono {P : Program} {f : FuncId} {args : Array Value} {H : SH} {R R' : Value → SH → Prop} (h : SCalls P f args H R) (hr : ∀ v H', R v H' → R' v H') : SCalls P f args H R' :=
  fun w hw => (h w hw).mono fun _ _ ⟨v, H', e, st, r⟩ => ⟨v, H', e, st, hr _ _ r⟩

/-- A contract of the other kind: memory is made, nothing that was there is written. -/
theorem SCalls.of_below {P : Program} {f : FuncId} {args : Array Value} {H : SH} {v : Value} (h : ∀ w, Calls P f args w fun e w' => e = .returned v ∧ RowKit.Below w.heap.size w w') :
    SCalls P f args H fun v' H' => v' = v ∧ H' = H := fun w hw =>
  (h w).mono fun e w' ⟨he, hb⟩ => ⟨v, H, he, ⟨hb.os, hb.tape, hb.output, hb.size, fun b hb' _ => hb.block b hb', fun b o hbo => by rw [hb.block b (hw.lt hbo)]; exact hw b o hbo, fun b o hbo => .inl ⟨o, hbo, id⟩⟩, rfl, rfl⟩

/-! ### frames -/
def Fr := Nat → Value
def Fr.upd (fr : Fr) (d : Nat) (v : Value) : Fr := fun j => bif Nat.beq j d then v else fr j
def mkAct (n : Nat) (fr : Fr) : Act := { tmps := Array.ofFn fun i : Fin n => fr i, defers := [] }
def evF (n : Nat) (fr : Fr) : Operand → Value
  | .tmp t => bif Nat.blt t n then fr t else undef
  | .const v => v
  | .global g => .pointer (some ⟨g, 0, none⟩)
  | .func f => .func (.func f) #[] #[]
theorem eval_mkAct (n : Nat) (fr : Fr) : (mkAct n fr).eval = evF n fr := by
  funext x
  cases x with
  | tmp t =>
    simp only [Act.eval, mkAct, evF]
    rcases Nat.lt_or_ge t n with h | h
    · have hb : Nat.blt t n = true := by simpa [Nat.blt_eq] using h
      rw [hb, Array.getD_eq_getD_getElem?]; simp [h]
    · have hb : Nat.blt t n = false := by
        cases hc : Nat.blt t n with
        | false => rfl
        | true => rw [Nat.blt_eq] at hc; omega
      rw [hb, Array.getD_eq_getD_getElem?]; simp [Nat.not_lt.2 h]
  | const v => rfl
  | global g => rfl
  | func f => rfl
theorem put_mkAct (n : Nat) (fr : Fr) (d : Nat) (v : Value) : (mkAct n fr).put (some d) v = mkAct n (fr.upd d v) := by
  simp only [mkAct, Act.put, Act.mk.injEq, and_true]
  apply Array.ext
  · simp
  · intro i h1 h2
    simp only [Array.size_setIfInBounds, Array.size_ofFn] at h1
    rw [Array.getElem_setIfInBounds (by simpa using h1)]
    by_cases hd : d = i
    · subst hd; simp [Fr.upd]
    · have : Nat.beq i d = false := by
        cases hc : Nat.beq i d with
        | false => rfl
        | true => exact absurd (Nat.eq_of_beq_eq_true hc).symm hd
      simp [hd, Fr.upd, this]
/-- Is an operation wanted? Of a frame. -/
def wantF (n : Nat) (ops : Array Oper) (fr : Fr) (o : Oper) : Bool :=
  match o.guard with
  | none => true
  | some (j, b) => match (ops[j]?).bind (·.dst) with
    | some d => bif Nat.blt d n then (match fr d with | .bool c => c == b | _ => false) else false
    | none => false
theorem want_mkAct (n : Nat) (ops : Array Oper) (fr : Fr) (o : Oper) : Region.wanted o (yielded ops (mkAct n fr).tmps) = wantF n ops fr o := by
  unfold Region.wanted wantF
  cases o.guard with
  | none => rfl
  | some g =>
    obtain ⟨j, b⟩ := g
    simp only [yielded]
    cases hd : (ops[j]?).bind (·.dst) with
    | none => simp
    | some d =>
      simp only [Option.bind_some]
      rcases Nat.lt_or_ge d n with h | h
      · have hb : Nat.blt d n = true := by simpa [Nat.blt_eq] using h
        rw [hb]
        have : (mkAct n fr).tmps[d]? = some (fr d) := by simp [mkAct, h]
        rw [this]
        cases hv : fr d <;> simp
      · have hb : Nat.blt d n = false := by
          cases hc : Nat.blt d n with
          | false => rfl
          | true => rw [Nat.blt_eq] at hc; omega
        rw [hb]
        have : (mkAct n fr).tmps[d]? = none := by simp [mkAct, h]
        rw [this]
        simp

/-! ### code -/
abbrev Post := Exit → Fr → SH → Prop
def lift (n : Nat) (w0 : World) (H0 : SH) (Q : Post) : Exit → Act → World → Prop := fun e a w => ∃ fr H, a = mkAct n fr ∧ St w0 H0 H w ∧ Q e fr H
def SW (P : Program) (n : Nat) (c : Code) (fr : Fr) (H : SH) (Q : Post) : Prop := ∀ w0 H0 w, St w0 H0 H w → c.wp P (lift n w0 H0 Q) (mkAct n fr) w
def SOps (P : Program) (n : Nat) (ops : Array Oper) (l : List Oper) (fr : Fr) (H : SH) (Q : Post) : Prop := ∀ w0 H0 w, St w0 H0 H w → wpList P ops (lift n w0 H0 Q) l (mkAct n fr) w

def thenQ (next : Fr → SH → Prop) (Q : Post) : Post
  | .normal, fr, H => next fr H
  | e, fr, H => Q e fr H
def blockQ (id : Nat) (Q : Post) : Post
  | .exit i, fr, H => bif Nat.beq i id then Q .normal fr H else Q (.exit i) fr H
  | e, fr, H => Q e fr H

section
variable {P : Program} {n : Nat} {fr : Fr} {H : SH} {Q : Post}

theorem SW.mono {c : Code} {Q' : Post} (h : SW P n c fr H Q) (hq : ∀ e fr H, Q e fr H → Q' e fr H) : SW P n c fr H Q' :=
  fun w0 H0 w st => wp_mono (h w0 H0 w st) fun _ _ _ ⟨fr', H', ha, st', q⟩ => ⟨fr', H', ha, st', hq _ _ _ q⟩

theorem SW.skip (h : Q .normal fr H) : SW P n .skip fr H Q := fun _ _ _ st => wp_skip ⟨fr, H, rfl, st, h⟩
theorem SW.exit {id : Nat} (h : Q (.exit id) fr H) : SW P n (.exit id) fr H Q := fun _ _ _ st => wp_exit ⟨fr, H, rfl, st, h⟩
theorem SW.ret (h : Q .ret fr H) : SW P n .ret fr H Q := fun _ _ _ st => wp_ret ⟨fr, H, rfl, st, h⟩

theorem SW.seq {x y : Code} (h : SW P n x fr H (thenQ (fun fr H => SW P n y fr H Q) Q)) : SW P n (.seq x y) fr H Q := fun w0 H0 w st => by
  refine wp_seq (wp_mono (h w0 H0 w st) ?_)
  rintro e a w' ⟨fr', H', rfl, st', q⟩
  cases e with
  | normal => exact q w0 H0 w' st'
  | _ => exact ⟨fr', H', rfl, st', q⟩

theorem SW.cond {c : Operand} {x y : Code} {t : Bool} (hc : evF n fr c = .bool t) (ht : t = true → SW P n x fr H Q) (hf : t = false → SW P n y fr H Q) : SW P n (.cond c x y) fr H Q := fun w0 H0 w st =>
  wp_cond_split (t := t) (by rw [eval_mkAct]; exact hc) (fun h => ht h w0 H0 w st) (fun h => hf h w0 H0 w st)
theorem SW.cond_t {c : Operand} {x y : Code} {t : Bool} (hc : evF n fr c = .bool t) (h1 : t = true) (ht : SW P n x fr H Q) : SW P n (.cond c x y) fr H Q :=
  SW.cond hc (fun _ => ht) fun h => by rw [h1] at h; cases h
theorem SW.cond_f {c : Operand} {x y : Code} {t : Bool} (hc : evF n fr c = .bool t) (h1 : t = false) (ht : SW P n y fr H Q) : SW P n (.cond c x y) fr H Q :=
  SW.cond hc (fun h => by rw [h1] at h; cases h) fun _ => ht

theorem SW.block {id : Nat} {c : Code} (h : SW P n c fr H (blockQ id Q)) : SW P n (.block id c) fr H Q := fun w0 H0 w st => by
  refine wp_block (wp_mono (h w0 H0 w st) ?_)
  rintro e a w' ⟨fr', H', rfl, st', q⟩
  cases e with
  | exit i =>
    simp only [Exit.inBlock]
    simp only [blockQ] at q
    by_cases hi : i = id
    · subst hi
      simp only [Nat.beq_refl, cond_true] at q
      rw [if_pos rfl]; exact ⟨fr', H', rfl, st', q⟩
    · have hb : Nat.beq i id = false := by
        cases hc : Nat.beq i id with
        | false => rfl
        | true => exact absurd (Nat.eq_of_beq_eq_true hc) hi
      rw [hb] at q
      rw [if_neg hi]; exact ⟨fr', H', rfl, st', q⟩
  | _ => exact ⟨fr', H', rfl, st', q⟩

theorem least_ (p : Nat → Prop) (h : ∃ k, p k) : ∃ k, p k ∧ ∀ m, p m → k ≤ m := by
  classical
  obtain ⟨k, hk⟩ := h
  induction k using Nat.strongRecOn with
  | _ k ih =>
    by_cases hm : ∃ m, m < k ∧ p m
    · obtain ⟨m, hm1, hm2⟩ := hm; exact ih m hm1 hm2
    · exact ⟨k, hk, fun m hpm => Nat.le_of_not_lt fun hlt => hm ⟨m, hlt, hpm⟩⟩
/-- A loop: 'J k fr H': at the head, with 'k' rounds left. -/
theorem SW.loop {c : Code} (J : Nat → Fr → SH → Prop) (k : Nat) (h0 : J k fr H)
    (round : ∀ k fr H, J k fr H → SW P n c fr H (thenQ (fun fr' H' => ∃ m, m < k ∧ J m fr' H') Q)) : SW P n (.loop c) fr H Q := fun w0 H0 w st => by
  classical
  let I : Nat → Act → World → Prop := fun k a w => ∃ fr H, a = mkAct n fr ∧ St w0 H0 H w ∧ J k fr H
  let μ : Act → World → Nat := fun a w => if h : ∃ k, I k a w then Classical.choose (least_ _ h) else 0
  refine wp_loop (fun a w => ∃ k, I k a w) μ ⟨k, fr, H, rfl, st, h0⟩ ?_
  intro a w' hI
  have hμ : μ a w' = Classical.choose (least_ _ hI) := dif_pos hI
  obtain ⟨fr', H', rfl, st', hJ⟩ := (Classical.choose_spec (least_ _ hI)).1
  refine wp_mono (round _ fr' H' hJ w0 H0 w' st') ?_
  rintro e a'' w'' ⟨fr'', H'', rfl, st'', q⟩
  cases e with
  | normal =>
    obtain ⟨m, hm, hJ'⟩ := q
    have hI' : ∃ k, I k (mkAct n fr'') w'' := ⟨m, fr'', H'', rfl, st'', hJ'⟩
    refine ⟨hI', ?_⟩
    have h1 : μ (mkAct n fr'') w'' = Classical.choose (least_ _ hI') := dif_pos hI'
    rw [h1, hμ]
    exact Nat.lt_of_le_of_lt ((Classical.choose_spec (least_ _ hI')).2 m ⟨fr'', H'', rfl, st'', hJ'⟩) hm
  | _ => exact ⟨fr'', H'', rfl, st'', q⟩

theorem SW.region {id : Nat} {l : List Oper} (h : SOps P n l.toArray l fr H Q) : SW P n (.region id l.toArray false) fr H Q := fun w0 H0 w st => wp_region_lit (h w0 H0 w st)

/-! ### operations, in the text's order -/
variable {ops : Array Oper} {o : Oper} {l : List Oper}
theorem SOps.nil (h : Q .normal fr H) : SOps P n ops [] fr H Q := fun w0 H0 w st => wpList_nil ⟨fr, H, rfl, st, h⟩

theorem SOps.off {d : Nat} (hd : o.dst = some d) (hg : wantF n ops fr o = false) (h : SOps P n ops l (fr.upd d undef) H Q) : SOps P n ops (o :: l) fr H Q := fun w0 H0 w st => by
  unfold wpList
  rw [want_mkAct, hg, hd, put_mkAct]
  exact h w0 H0 w st

/-- What an operation yields: a value, or none. -/
def Yields (r : Result Next) (v : Value) (w : World) : Prop := r = .ok (.value v) w ∨ (r = .ok .skip w ∧ v = undef)

theorem SOps.step {d : Nat} {R : Value → SH → Prop} (hd : o.dst = some d) (hg : wantF n ops fr o = true)
    (h : ∀ w, Sat H w → ∃ v H' w', Yields ((execOp (evF n fr) o).run P w) v w' ∧ St w H H' w' ∧ R v H')
    (hn : ∀ v H', R v H' → SOps P n ops l (fr.upd d v) H' Q) : SOps P n ops (o :: l) fr H Q := fun w0 H0 w st => by
  unfold wpList
  rw [want_mkAct, hg, if_pos rfl]
  left
  obtain ⟨v, H', w', hy, st', hr⟩ := h w st.sat
  unfold Oper.wp
  rw [eval_mkAct]
  rcases hy with hy | ⟨hy, rfl⟩
  · rw [hy, Oper.upon_value, hd, put_mkAct]; exact hn v H' hr w0 H0 w' (st.trans st')
  · rw [hy, Oper.upon_skip, hd, put_mkAct]; exact hn _ H' hr w0 H0 w' (st.trans st')

/-- The same where nothing is kept of what it yields (a store). -/
theorem SOps.stepN {R : SH → Prop} (hd : o.dst = none) (hg : wantF n ops fr o = true)
    (h : ∀ w, Sat H w → ∃ v H' w', Yields ((execOp (evF n fr) o).run P w) v w' ∧ St w H H' w' ∧ R H')
    (hn : ∀ H', R H' → SOps P n ops l fr H' Q) : SOps P n ops (o :: l) fr H Q := fun w0 H0 w st => by
  unfold wpList
  rw [want_mkAct, hg, if_pos rfl]
  left
  obtain ⟨v, H', w', hy, st', hr⟩ := h w st.sat
  unfold Oper.wp
  rw [eval_mkAct]
  rcases hy with hy | ⟨hy, rfl⟩
  · rw [hy, Oper.upon_value, hd]; exact hn H' hr w0 H0 w' (st.trans st')
  · rw [hy, Oper.upon_skip, hd]; exact hn H' hr w0 H0 w' (st.trans st')

/-- An operation that only reads. -/
theorem SOps.rd {d : Nat} {v : Value} (hd : o.dst = some d) (hg : wantF n ops fr o = true) (h : ∀ w, Sat H w → (execOp (evF n fr) o).run P w = .ok (.value v) w) (hn : SOps P n ops l (fr.upd d v) H Q) :
    SOps P n ops (o :: l) fr H Q :=
  SOps.step (R := fun v' H' => v' = v ∧ H' = H) hd hg (fun w hw => ⟨v, H, w, .inl (h w hw), .refl hw, rfl, rfl⟩) fun v' H' ⟨e1, e2⟩ => by subst e1; subst e2; exact hn

/-- One that is pure. -/
theorem SOps.val {d : Nat} {v : Value} (hd : o.dst = some d) (hg : wantF n ops fr o = true) (h : ∀ w, (execOp (evF n fr) o).run P w = .ok (.value v) w) (hn : SOps P n ops l (fr.upd d v) H Q) :
    SOps P n ops (o :: l) fr H Q := SOps.rd hd hg (fun w _ => h w) hn

/-- A call. -/
theorem SOps.enter {d : Nat} {g : FuncId} {args : Array Value} {R : Value → SH → Prop} (hd : o.dst = some d) (hg : wantF n ops fr o = true) (hx : ∀ w, (execOp (evF n fr) o).run P w = .ok (.enter g args) w)
    (hc : SCalls P g args H R) (hn : ∀ v H', R v H' → SOps P n ops l (fr.upd d v) H' Q) : SOps P n ops (o :: l) fr H Q := fun w0 H0 w st => by
  unfold wpList
  rw [want_mkAct, hg, if_pos rfl]
  left
  unfold Oper.wp
  rw [eval_mkAct, hx, Oper.upon_enter]
  refine (hc w st.sat).mono ?_
  rintro e w' ⟨v, H', rfl, st', r⟩
  show wpList P ops (lift n w0 H0 Q) l ((mkAct n fr).put o.dst v) w'
  rw [hd, put_mkAct]
  exact hn v H' r w0 H0 w' (st.trans st')
theorem SOps.enterN {g : FuncId} {args : Array Value} {R : Value → SH → Prop} (hd : o.dst = none) (hg : wantF n ops fr o = true) (hx : ∀ w, (execOp (evF n fr) o).run P w = .ok (.enter g args) w)
    (hc : SCalls P g args H R) (hn : ∀ v H', R v H' → SOps P n ops l fr H' Q) : SOps P n ops (o :: l) fr H Q := fun w0 H0 w st => by
  unfold wpList
  rw [want_mkAct, hg, if_pos rfl]
  left
  unfold Oper.wp
  rw [eval_mkAct, hx, Oper.upon_enter]
  refine (hc w st.sat).mono ?_
  rintro e w' ⟨v, H', rfl, st', r⟩
  show wpList P ops (lift n w0 H0 Q) l ((mkAct n fr).put o.dst v) w'
  rw [hd]
  exact hn v H' r w0 H0 w' (st.trans st')

/-! ### operations of a region that draws its order: all only read -/
def SQ (P : Program) (n : Nat) (ops : Array Oper) (l : List Oper) (fr : Fr) (H : SH) (K : Fr → Prop) : Prop :=
  ∀ w0 H0, wpQuiet P ops (fun w => St w0 H0 H w) (fun a => ∃ fr, a = mkAct n fr ∧ K fr) l (mkAct n fr)

theorem SW.draw {id : Nat} {l : List Oper} (hm : P.follows .mixedOrders = true) (hB : Region.lexB .any l.toArray = true) (h : SQ P n l.toArray l fr H (fun fr => Q .normal fr H)) :
    SW P n (.region id l.toArray true) fr H Q := fun w0 H0 w st => by
  refine wp_region_quiet (C := fun w => St w0 H0 H w) hm hB ?_ ?_
  · exact ⟨st.os, st.tape, st.output, st.size, st.keep, st.sat, st.own⟩
  · have h1 := h w0 H0
    have key : ∀ (l' : List Oper) (a : Act), wpQuiet P l.toArray (fun w => St w0 H0 H w) (fun a => ∃ fr, a = mkAct n fr ∧ Q .normal fr H) l' a →
        wpQuiet P l.toArray (fun w => St w0 H0 H w) (fun a' => ∀ w', St w0 H0 H w' → lift n w0 H0 Q .normal a' w') l' a := by
      intro l'
      induction l' with
      | nil => rintro a ⟨fr', rfl, q⟩ w' st'; exact ⟨fr', H, rfl, st', q⟩
      | cons o l' ih =>
        intro a ha
        unfold wpQuiet at ha ⊢
        split
        · rename_i hw; rw [if_pos hw] at ha; exact Oper.quiet_mono (fun a => ih a) ha
        · rename_i hw; rw [if_neg hw] at ha; exact ih _ ha
    simpa using key l (mkAct n fr) h1

variable {Kq : Fr → Prop}
theorem SQ.nil (h : Kq fr) : SQ P n ops [] fr H Kq := fun _ _ => ⟨fr, rfl, h⟩
theorem SQ.off {d : Nat} (hd : o.dst = some d) (hg : wantF n ops fr o = false) (h : SQ P n ops l (fr.upd d undef) H Kq) : SQ P n ops (o :: l) fr H Kq := fun w0 H0 => by
  unfold wpQuiet
  rw [want_mkAct, hg, hd, put_mkAct]
  exact h w0 H0
theorem SQ.rd {d : Nat} {v : Value} (hd : o.dst = some d) (hg : wantF n ops fr o = true) (h : ∀ w, Sat H w → (execOp (evF n fr) o).run P w = .ok (.value v) w) (hn : SQ P n ops l (fr.upd d v) H Kq) : SQ P n ops (o :: l) fr H Kq := fun w0 H0 => by
  unfold wpQuiet
  rw [want_mkAct, hg, if_pos rfl]
  refine ⟨v, fun w st => ?_, ?_⟩
  · unfold Oper.quietAt
    rw [eval_mkAct, h w st.sat]
    exact ⟨rfl, rfl⟩
  · rw [hd, put_mkAct]; exact hn w0 H0
theorem SQ.val {d : Nat} {v : Value} (hd : o.dst = some d) (hg : wantF n ops fr o = true) (h : ∀ w, (execOp (evF n fr) o).run P w = .ok (.value v) w) (hn : SQ P n ops l (fr.upd d v) H Kq) : SQ P n ops (o :: l) fr H Kq :=
  SQ.rd hd hg (fun w _ => h w) hn
theorem SQ.enter {d : Nat} {g : FuncId} {args : Array Value} {v : Value} (hd : o.dst = some d) (hg : wantF n ops fr o = true) (hx : ∀ w, (execOp (evF n fr) o).run P w = .ok (.enter g args) w)
    (hc : SCalls P g args H (fun v' H' => v' = v ∧ H' = H)) (hn : SQ P n ops l (fr.upd d v) H Kq) : SQ P n ops (o :: l) fr H Kq := fun w0 H0 => by
  unfold wpQuiet
  rw [want_mkAct, hg, if_pos rfl]
  refine ⟨v, fun w st => ?_, ?_⟩
  · unfold Oper.quietAt
    rw [eval_mkAct, hx]
    refine ⟨rfl, (hc w st.sat).mono ?_⟩
    rintro e w' ⟨v', H', rfl, st', rfl, rfl⟩
    exact ⟨rfl, st.trans st'⟩
  · rw [hd, put_mkAct]; exact hn w0 H0
end

/-! ### a function -/
def argF (args : Array Value) : Fr := fun i => args.getD i undef
theorem argF_act (args : Array Value) (n : Nat) (h : args.size ≤ n) : ({ tmps := args ++ Array.replicate (n - args.size) undef, defers := [] } : Act) = mkAct n (argF args) := by
  simp only [mkAct, Act.mk.injEq, and_true]
  apply Array.ext
  · simp; omega
  · intro i h1 h2
    simp only [Array.size_ofFn] at h2
    rw [Array.getElem_append]
    split
    · rename_i hi; simp [argF, Array.getD_eq_getD_getElem?, hi]
    · rename_i hi; simp [argF, Array.getD_eq_getD_getElem?, Array.getElem?_eq_none (Nat.not_lt.1 hi)]

def SH.le (H' H : SH) : Prop := ∀ b o, H' b = some o → H b = some o
theorem SH.le.refl (H : SH) : SH.le H H := fun _ _ h => h
theorem SH.le.trans {H1 H2 H3 : SH} (h : SH.le H1 H2) (k : SH.le H2 H3) : SH.le H1 H3 := fun b o hb => k b o (h b o hb)
/-- At the end what is no more wanted is forgotten. -/
def retQ (P : Program) (fn : Func) (n : Nat) (R : Value → SH → Prop) : Post
  | .normal, fr, H => ∃ v H', SH.le H' H ∧ (∀ w, Sat H w → (results fn (mkAct n fr).tmps).run P w = .ok v w) ∧ R v H'
  | .ret, fr, H => ∃ v H', SH.le H' H ∧ (∀ w, Sat H w → (results fn (mkAct n fr).tmps).run P w = .ok v w) ∧ R v H'
  | _, _, _ => False

theorem SCalls.body {P : Program} {f : FuncId} {fn : Func} {c : Code} {args : Array Value} {H : SH} {R : Value → SH → Prop} (hf : P.funcs[f]? = some fn) (hb : fn.body = some c) (hn : args.size ≤ fn.ntmps)
    (h : SW P fn.ntmps c (argF args) H (retQ P fn fn.ntmps R)) : SCalls P f args H R := fun w hw => by
  refine calls_of_wp hf hb ?_
  rw [argF_act args fn.ntmps hn]
  refine wp_mono (h w H w (.refl hw)) ?_
  rintro e a w' ⟨fr, H', rfl, st, q⟩
  cases e with
  | normal => obtain ⟨v, H2, hle, hv, r⟩ := q; exact ⟨rfl, v, hv w' st.sat, v, H2, rfl, { st with sat := fun b o hb => st.sat b o (hle b o hb), own := fun b o hb => st.own b o (hle b o hb) }, r⟩
  | ret => obtain ⟨v, H2, hle, hv, r⟩ := q; exact ⟨rfl, v, hv w' st.sat, v, H2, rfl, { st with sat := fun b o hb => st.sat b o (hle b o hb), own := fun b o hb => st.own b o (hle b o hb) }, r⟩
  | _ => exact q.elim
end Go.Proofs.Ytpnbehgkbfhacaa.K
