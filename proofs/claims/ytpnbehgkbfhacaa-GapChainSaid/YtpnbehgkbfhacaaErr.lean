/- Error values of this program: numbers, and faults at places. -/
import Derived.Test.YtpnbehgkbfhacaaSatUns
import Derived.Test.YtpnbehgkbfhacaaProg
import Derived.WideLaws
set_option linter.unusedVariables false
set_option linter.unusedSimpArgs false
namespace Go.Proofs.Ytpnbehgkbfhacaa.K
open Go

inductive EV where
  | no (c : Int)
  | fault0 (p : Int)
  | fault (p : Int) (e : EV)
def EV.val : EV → Value
  | .no c => .iface 55 (.int .i64 c)
  | .fault0 p => .iface 69 (.agg #[.int .i64 p, .nilIface])
  | .fault p e => .iface 69 (.agg #[.int .i64 p, e.val])
def errV : Option EV → Value
  | none => .nilIface
  | some e => e.val
def EV.mk (p : Int) : Option EV → EV
  | none => .fault0 p
  | some e => .fault p e
theorem EV.val_mk (p : Int) (e : Option EV) : (EV.mk p e).val = .iface 69 (.agg #[.int .i64 p, errV e]) := by cases e <;> rfl
theorem errV_cells (e : Option EV) : (errV e).cells = #[errV e] := by
  cases e with
  | none => rfl
  | some e => cases e <;> rfl
theorem errV_one (e : Option EV) : (errV e).oneCell' = true := by
  cases e with
  | none => rfl
  | some e => cases e <;> rfl

section
variable {ρ : Operand → Value} {o : Oper}
theorem ev_fault {x : Operand} (ho : o.op = .makeInterface 69 x) {p : Int} {e : Option EV} (hx : ρ x = .agg #[.int .i64 p, errV e]) (w : World) : (execOp ρ o).run Try.prog w = .ok (.value (errV (some (EV.mk p e)))) w := by
  have h : ∀ v, (Instr.makeInterface 69 v).run Try.prog w = .ok (.iface 69 v) w := fun v => by kernel_rfl
  unfold execOp
  simp only [ho, hx, Sem.run_bind, h]
  show _ = Result.ok (Next.value (EV.mk p e).val) w
  rw [EV.val_mk]; rfl
theorem ev_buildF {x y : Operand} (ho : o.op = .build 69 #[(0, x), (1, y)]) {p : Int} {e : Option EV} (hx : ρ x = .int .i64 p) (hy : ρ y = errV e) (w : World) : (execOp ρ o).run Try.prog w = .ok (.value (.agg #[.int .i64 p, errV e])) w := by
  have h : ∀ u : Value, u = .nilIface ∨ (∃ t v, u = .iface t v) → (Instr.build 69 #[(0, .int .i64 p), (1, u)]).run Try.prog w = .ok (.agg #[.int .i64 p, u]) w := by
    rintro u (rfl | ⟨t, v, rfl⟩) <;> kernel_rfl
  have hu : errV e = .nilIface ∨ ∃ t v, errV e = .iface t v := by
    cases e with
    | none => exact .inl rfl
    | some e => cases e <;> exact .inr ⟨_, _, rfl⟩
  unfold execOp
  simp only [ho, Sem.run_bind]
  have : (Array.map (fun x => (x.1, ρ x.2)) #[(0, x), (1, y)]) = #[(0, .int .i64 p), (1, errV e)] := by simp [hx, hy]
  rw [this, h _ hu]; rfl
theorem ev_errNe {T U : TypeId} {x : Operand} (ho : o.op = .binOp .neq T x (.const .nilIface) U) (hT : Try.prog.underlying T = some (.interface (Try.prog.methodsAt T))) {e : Option EV} (hx : ρ x = errV e) (hk : ρ (.const .nilIface) = .nilIface) (w : World) :
    (execOp ρ o).run Try.prog w = .ok (.value (.bool e.isSome)) w := by
  have hn : ρ (.const .nilIface) = .nilIface → (execOp ρ o).run Try.prog w = .ok (.value (.bool e.isSome)) w := by
    intro hc
    unfold execOp
    simp only [ho, hx, hc, Sem.run_bind]
    cases e with
    | none =>
      have h1 : (eqGuard .neq T x (.const .nilIface) (errV none) .nilIface).run Try.prog w = .ok () w := by
        clear hx ho; cases x <;> rfl
      rw [h1, Result.andThen_ok, show errV none = .nilIface from rfl, run_neq_nil_nil w T hT]; rfl
    | some e =>
      have h1 : (eqGuard .neq T x (.const .nilIface) (errV (some e)) .nilIface).run Try.prog w = .ok () w := by cases e <;> rfl
      have h2 : (binOp .neq T (errV (some e)) .nilIface).run Try.prog w = .ok (.bool true) w := by cases e <;> exact run_neq_held_nil w T _ _ hT
      rw [h1, Result.andThen_ok, h2]; rfl
  exact hn hk
theorem ev_errEq {T U : TypeId} {x : Operand} (ho : o.op = .binOp .eql T x (.const .nilIface) U) (hT : Try.prog.underlying T = some (.interface (Try.prog.methodsAt T))) {e : Option EV} (hx : ρ x = errV e) (hk : ρ (.const .nilIface) = .nilIface) (w : World) :
    (execOp ρ o).run Try.prog w = .ok (.value (.bool e.isNone)) w := by
  unfold execOp
  simp only [ho, hx, hk, Sem.run_bind]
  cases e with
  | none =>
    have h1 : (eqGuard .eql T x (.const .nilIface) (errV none) .nilIface).run Try.prog w = .ok () w := by
      clear hx ho; cases x <;> rfl
    rw [h1, Result.andThen_ok, show errV none = .nilIface from rfl, run_eql_nil_nil w T hT]; rfl
  | some e =>
    have h1 : (eqGuard .eql T x (.const .nilIface) (errV (some e)) .nilIface).run Try.prog w = .ok () w := by cases e <;> rfl
    have h2 : (binOp .eql T (errV (some e)) .nilIface).run Try.prog w = .ok (.bool false) w := by cases e <;> exact run_eql_held_nil w T _ _ hT
    rw [h1, Result.andThen_ok, h2]; rfl
end

/-! ### small words for the printed walks -/
theorem wantN {n : Nat} {ops : Array Oper} {fr : Fr} {o : Oper} (h : o.guard = none) : wantF n ops fr o = true := by unfold wantF; rw [h]
theorem wantY {n : Nat} {ops : Array Oper} {fr : Fr} {o : Oper} {j d : Nat} {b c : Bool} (h : o.guard = some (j, b)) (hj : (ops[j]?).bind (·.dst) = some d) (hv : evF n fr (.tmp d) = .bool c) (hc : c = b) : wantF n ops fr o = true := by
  unfold wantF; rw [h]; simp only [hj]
  simp only [evF] at hv
  cases hlt : Nat.blt d n with
  | false => rw [hlt] at hv; simp [undef] at hv
  | true => rw [hlt] at hv; simp only [cond_true] at hv ⊢; rw [hv, hc]; simp
theorem wantX {n : Nat} {ops : Array Oper} {fr : Fr} {o : Oper} {j d : Nat} {b c : Bool} (h : o.guard = some (j, b)) (hj : (ops[j]?).bind (·.dst) = some d) (hv : evF n fr (.tmp d) = .bool c) (hc : c = !b) : wantF n ops fr o = false := by
  unfold wantF; rw [h]; simp only [hj]
  simp only [evF] at hv
  cases hlt : Nat.blt d n with
  | false => rfl
  | true => rw [hlt] at hv; simp only [cond_true] at hv ⊢; rw [hv, hc]; cases b <;> rfl
theorem wantU {n : Nat} {ops : Array Oper} {fr : Fr} {o : Oper} {j d : Nat} {b : Bool} (h : o.guard = some (j, b)) (hj : (ops[j]?).bind (·.dst) = some d) (hv : evF n fr (.tmp d) = undef) : wantF n ops fr o = false := by
  unfold wantF; rw [h]; simp only [hj]
  simp only [evF] at hv
  cases hlt : Nat.blt d n with
  | false => rfl
  | true => rw [hlt] at hv; simp only [cond_true] at hv ⊢; rw [hv]; rfl
theorem not_t {b : Bool} (h : b = true) : (!b) = false := by rw [h]; rfl
theorem not_f {b : Bool} (h : b = false) : (!b) = true := by rw [h]; rfl

theorem o_none {α : Type} {A : Prop} {B : α → Prop} (h : A) : ((none : Option α) = none → A) ∧ (∀ v, (none : Option α) = some v → B v) := ⟨fun _ => h, fun _ e => (nomatch e)⟩
theorem o_some {α : Type} {a : α} {A : Prop} {B : α → Prop} (h : B a) : (some a = none → A) ∧ (∀ v, some a = some v → B v) := ⟨fun e => (nomatch e), fun v e => by cases e; exact h⟩
theorem p_none {A : Prop} {B : Nat → Nat → Prop} (h : A) : ((none : Option (Nat × Nat)) = none → A) ∧ (∀ b o, (none : Option (Nat × Nat)) = some (b, o) → B b o) := ⟨fun _ => h, fun _ _ e => (nomatch e)⟩
theorem p_some {b o : Nat} {A : Prop} {B : Nat → Nat → Prop} (h : B b o) : (some (b, o) = none → A) ∧ (∀ b' o', some (b, o) = some (b', o') → B b' o') := ⟨fun e => (nomatch e), fun b' o' e => by cases e; exact h⟩
theorem br_t {c A B : Prop} (hc : c) (h : A) : (c → A) ∧ (¬ c → B) := ⟨fun _ => h, fun n => absurd hc n⟩
theorem br_f {c A B : Prop} (hc : ¬ c) (h : B) : (c → A) ∧ (¬ c → B) := ⟨fun n => absurd n hc, fun _ => h⟩
def Fr.upds (fr : Fr) : List (Nat × Value) → Fr
  | [] => fr
  | (d, v) :: l => (Fr.upds fr l).upd d v
def Fr.all (fr : Fr) : List (Nat × Value) → Prop
  | [] => True
  | (d, v) :: l => fr d = v ∧ Fr.all fr l
theorem Fr.upds_self (fr : Fr) : ∀ l, Fr.all fr l → fr = fr.upds l
  | [], _ => rfl
  | (d, v) :: l, ⟨h, hl⟩ => by
    have := Fr.upds_self fr l hl
    unfold Fr.upds
    rw [← this]
    funext j
    unfold Fr.upd
    cases hj : Nat.beq j d with
    | false => rfl
    | true => rw [← h, Nat.eq_of_beq_eq_true hj]; rfl

theorem retQ.mk {P : Program} {fn : Func} {n : Nat} {R : Value → SH → Prop} {fr : Fr} {H : SH} (v : Value) (h : (results fn (mkAct n fr).tmps).run P = fun w => .ok v w) {H' : SH} (hle : SH.le H' H) (r : R v H') : retQ P fn n R .ret fr H := ⟨v, H', hle, fun w _ => by rw [h], r⟩
theorem retQ.mkN {P : Program} {fn : Func} {n : Nat} {R : Value → SH → Prop} {fr : Fr} {H : SH} (v : Value) (h : (results fn (mkAct n fr).tmps).run P = fun w => .ok v w) {H' : SH} (hle : SH.le H' H) (r : R v H') : retQ P fn n R .normal fr H := ⟨v, H', hle, fun w _ => by rw [h], r⟩
theorem retQ.mkM {P : Program} {fn : Func} {n : Nat} {R : Value → SH → Prop} {fr : Fr} {H : SH} (v : Value) (h : ∀ w, Sat H w → (results fn (mkAct n fr).tmps).run P w = .ok v w) {H' : SH} (hle : SH.le H' H) (r : R v H') : retQ P fn n R .ret fr H := ⟨v, H', hle, h, r⟩
theorem retQ.mkMN {P : Program} {fn : Func} {n : Nat} {R : Value → SH → Prop} {fr : Fr} {H : SH} (v : Value) (h : ∀ w, Sat H w → (results fn (mkAct n fr).tmps).run P w = .ok v w) {H' : SH} (hle : SH.le H' H) (r : R v H') : retQ P fn n R .normal fr H := ⟨v, H', hle, h, r⟩
theorem getD_mkAct (n : Nat) (fr : Fr) (t : Nat) : (mkAct n fr).tmps[t]?.getD undef = evF n fr (.tmp t) := by
  have := congrFun (eval_mkAct n fr) (.tmp t)
  rw [← this, ← Array.getD_eq_getD_getElem?]; rfl
theorem res0 {P : Program} {fn : Func} {n : Nat} {fr : Fr} (h : fn.results = #[]) : (results fn (mkAct n fr).tmps).run P = fun w => .ok (.tuple #[]) w := by
  funext w; simp [results, h]
theorem res1 {P : Program} {fn : Func} {n : Nat} {fr : Fr} {a : Nat} {v : Value} (h : fn.results = #[.tmp a]) (e : evF n fr (.tmp a) = v) : (results fn (mkAct n fr).tmps).run P = fun w => .ok v w := by
  funext w; simp [results, h, getD_mkAct, e]
theorem res2 {P : Program} {fn : Func} {n : Nat} {fr : Fr} {a b : Nat} {v u : Value} (h : fn.results = #[.tmp a, .tmp b]) (e : evF n fr (.tmp a) = v) (e2 : evF n fr (.tmp b) = u) : (results fn (mkAct n fr).tmps).run P = fun w => .ok (.tuple #[v, u]) w := by
  funext w; simp [results, h, getD_mkAct, e, e2]
theorem res3 {P : Program} {fn : Func} {n : Nat} {fr : Fr} {a b c : Nat} {v u x : Value} (h : fn.results = #[.tmp a, .tmp b, .tmp c]) (e : evF n fr (.tmp a) = v) (e2 : evF n fr (.tmp b) = u) (e3 : evF n fr (.tmp c) = x) : (results fn (mkAct n fr).tmps).run P = fun w => .ok (.tuple #[v, u, x]) w := by
  funext w; simp [results, h, getD_mkAct, e, e2, e3]

/-- A result that lies in memory. -/
theorem resC1 {P : Program} {fn : Func} {n : Nat} {fr : Fr} {H : SH} {a : Nat} {T : TypeId} {p : Nat × Nat} {v : Value} (h : fn.results = #[.cell a T]) (e : evF n fr (.tmp a) = pv (some p)) (hA : ∀ w, (isAgg T).run P w = .ok false w) (hc : H.has p v) : ∀ w, Sat H w → (results fn (mkAct n fr).tmps).run P w = .ok v w := by
  intro w hw
  simp [results, h, getD_mkAct, e, pv, asAddr, loadVar, hA, hw.cell hc]
theorem resCN {P : Program} {fn : Func} {n : Nat} {fr : Fr} {H : SH} {a : Nat} {T : TypeId} {size : Nat} {p : Nat × Nat} {cs : List Value} (h : fn.results = #[.cell a T]) (e : evF n fr (.tmp a) = pv (some p)) (hA : ∀ w, (isAgg T).run P w = .ok true w) (hs : (P.info? T).map (·.size) = some size) (hl : cs.length = size) (hc : H.row (some p) cs) :
    ∀ w, Sat H w → (results fn (mkAct n fr).tmps).run P w = .ok (.agg cs.toArray) w := by
  intro w hw
  obtain ⟨inf, hinf, rfl⟩ := Option.map_eq_some_iff.1 hs
  have hcells : ∀ j v, cs[j]? = some v → w.cell? ((ad p).add j) = some v := by
    intro j v hv
    obtain ⟨p', hp', h'⟩ := hw.row hc (by rintro rfl; simp at hv)
    cases hp'; exact h' j v hv
  have := run_loadCells_list (P := P) w (ad p) cs hcells
  simp [results, h, getD_mkAct, e, pv, asAddr, loadVar, hA, sizeOf, typeInfo, hinf, ← hl, this]
/-- Results, some of them in memory. -/
def resSem (tmps : Array Value) : ResultVar → Sem Value
  | .tmp t => pure (tmps.getD t undef)
  | .cell a t => do loadVar t (← asAddr (tmps.getD a undef))
def RV (P : Program) (n : Nat) (fr : Fr) (H : SH) (r : ResultVar) (v : Value) : Prop := ∀ w, Sat H w → (resSem (mkAct n fr).tmps r).run P w = .ok v w
theorem RV.tmp {P : Program} {n : Nat} {fr : Fr} {H : SH} {a : Nat} {v : Value} (e : evF n fr (.tmp a) = v) : RV P n fr H (.tmp a) v := fun w _ => by
  simp [resSem, getD_mkAct, e]
theorem RV.cel1 {P : Program} {n : Nat} {fr : Fr} {H : SH} {a : Nat} {T : TypeId} {p : Nat × Nat} {v : Value} (e : evF n fr (.tmp a) = pv (some p)) (hA : ∀ w, (isAgg T).run P w = .ok false w) (hc : H.has p v) : RV P n fr H (.cell a T) v := fun w hw => by
  simp [resSem, getD_mkAct, e, pv, asAddr, loadVar, hA, hw.cell hc]
theorem RV.celN {P : Program} {n : Nat} {fr : Fr} {H : SH} {a : Nat} {T : TypeId} {size : Nat} {p : Nat × Nat} {cs : List Value} (e : evF n fr (.tmp a) = pv (some p)) (hA : ∀ w, (isAgg T).run P w = .ok true w) (hs : (P.info? T).map (·.size) = some size) (hl : cs.length = size) (hc : H.row (some p) cs) : RV P n fr H (.cell a T) (.agg cs.toArray) := fun w hw => by
  obtain ⟨inf, hinf, rfl⟩ := Option.map_eq_some_iff.1 hs
  have hcells : ∀ j v, cs[j]? = some v → w.cell? ((ad p).add j) = some v := by
    intro j v hv
    obtain ⟨p', hp', h'⟩ := hw.row hc (by rintro rfl; simp at hv)
    cases hp'; exact h' j v hv
  have := run_loadCells_list (P := P) w (ad p) cs hcells
  simp [resSem, getD_mkAct, e, pv, asAddr, loadVar, hA, sizeOf, typeInfo, hinf, ← hl, this]
theorem results_eq (fn : Func) (tmps : Array Value) : results fn tmps = (do let vs ← fn.results.mapM (resSem tmps); pure (if h : vs.size = 1 then vs[0] else .tuple vs)) := rfl
theorem res2M {P : Program} {fn : Func} {n : Nat} {fr : Fr} {H : SH} {r1 r2 : ResultVar} {v1 v2 : Value} (h : fn.results = #[r1, r2]) (h1 : RV P n fr H r1 v1) (h2 : RV P n fr H r2 v2) : ∀ w, Sat H w → (results fn (mkAct n fr).tmps).run P w = .ok (.tuple #[v1, v2]) w := fun w hw => by
  rw [results_eq, h]
  simp [h1 w hw, h2 w hw]
theorem res3M {P : Program} {fn : Func} {n : Nat} {fr : Fr} {H : SH} {r1 r2 r3 : ResultVar} {v1 v2 v3 : Value} (h : fn.results = #[r1, r2, r3]) (h1 : RV P n fr H r1 v1) (h2 : RV P n fr H r2 v2) (h3 : RV P n fr H r3 v3) : ∀ w, Sat H w → (results fn (mkAct n fr).tmps).run P w = .ok (.tuple #[v1, v2, v3]) w := fun w hw => by
  rw [results_eq, h]
  simp [h1 w hw, h2 w hw, h3 w hw]
/-- Is a slice nil? -/
theorem ev_slEq {P : Program} {ρ : Operand → Value} {o : Oper} {T U E : TypeId} {x y : Operand} {s : Sl} (ho : o.op = .binOp .eql T x y U) (hT : P.underlying T = some (.slice E)) (hx : ρ x = sv s) (hy : ρ y = .slice none 0 0) (w : World) : (execOp ρ o).run P w = .ok (.value (.bool s.a.isNone)) w := by
  have he : (eqGuard .eql T x y (sv s) (.slice none 0 0)).run P w = .ok () w := by unfold sv; cases s.a <;> rfl
  have hb : (binOp .eql T (sv s) (.slice none 0 0)).run P w = .ok (.bool s.a.isNone) w := by
    have h : ∀ d : Nat, (Op.equalIn (d + 1) T (sv s) (.slice none 0 0)).run P w = .ok s.a.isNone w := fun d => by
      unfold sv
      cases s.a <;> simp [Op.equalIn, run_underlying hT]
    simp only [binOp]
    simp [Op.equal, Op.maxDepth, h 9999]
  unfold execOp
  simp only [ho, hx, hy, Sem.run_bind]
  rw [he, Result.andThen_ok, hb]; rfl
theorem ev_slNe {P : Program} {ρ : Operand → Value} {o : Oper} {T U E : TypeId} {x y : Operand} {s : Sl} (ho : o.op = .binOp .neq T x y U) (hT : P.underlying T = some (.slice E)) (hx : ρ x = sv s) (hy : ρ y = .slice none 0 0) (w : World) : (execOp ρ o).run P w = .ok (.value (.bool s.a.isSome)) w := by
  have he : (eqGuard .neq T x y (sv s) (.slice none 0 0)).run P w = .ok () w := by unfold sv; cases s.a <;> rfl
  have hb : (binOp .neq T (sv s) (.slice none 0 0)).run P w = .ok (.bool s.a.isSome) w := by
    have h : ∀ d : Nat, (Op.equalIn (d + 1) T (sv s) (.slice none 0 0)).run P w = .ok s.a.isNone w := fun d => by
      unfold sv
      cases s.a <;> simp [Op.equalIn, run_underlying hT]
    simp only [binOp]
    simp [Op.equal, Op.maxDepth, h 9999]
  unfold execOp
  simp only [ho, hx, hy, Sem.run_bind]
  rw [he, Result.andThen_ok, hb]; rfl
/-- An index into a table. -/
theorem ev_idxA {P : Program} {ρ : Operand → Value} {o : Oper} {T E : TypeId} {m : Nat} {x ix : Operand} {cs : List Value} {k : IntKind} {i : Int} {v : Value} (ho : o.op = .index T x ix) (hT : P.underlying T = some (.array m E)) (hs : (P.info? E).map (·.size) = some 1) (hA : ∀ w, (isAgg E).run P w = .ok false w) (hl : cs.length = m) (hx : ρ x = .agg cs.toArray) (hi : ρ ix = .int k i)
    (h0 : 0 ≤ i) (hv : cs[i.toNat]? = some v) (w : World) : (execOp ρ o).run P w = .ok (.value v) w := by
  obtain ⟨inf, hinf, hs'⟩ := Option.map_eq_some_iff.1 hs
  have hlt : i.toNat < cs.length := (List.getElem?_eq_some_iff.1 hv).1
  have h1 : i < m := by omega
  unfold execOp
  simp [ho, hx, hi, Instr.index, asIntOf, run_underlying hT, h0, h1, sizeOf, typeInfo, hinf, hs', part, hA, hv]
/-- A join behind a sequence's first part. -/
theorem SW.seqJ {P : Program} {n : Nat} {fr : Fr} {H : SH} {Q : Post} {x y : Code} (J : Fr → SH → Prop) (hj : ∀ fr H, J fr H → SW P n y fr H Q) (h : SW P n x fr H (thenQ J Q)) : SW P n (.seq x y) fr H Q :=
  SW.seq (SW.mono h fun e fr H q => by cases e <;> first | exact hj fr H q | exact q)
/-- A join behind a block. -/
theorem SW.blockJ {P : Program} {n : Nat} {fr : Fr} {H : SH} {Q : Post} {id : Nat} {c : Code} (J : Fr → SH → Prop) (hj : ∀ fr H, J fr H → Q .normal fr H) (h : SW P n c fr H (blockQ id (thenQ J Q))) : SW P n (.block id c) fr H Q :=
  SW.block (SW.mono h fun e fr H q => by
    cases e with
    | normal => exact hj fr H q
    | exit i =>
      simp only [blockQ] at q ⊢
      cases hb : Nat.beq i id with
      | true => rw [hb] at q; exact hj fr H q
      | false => rw [hb] at q; exact q
    | _ => exact q)

@[reducible] def w64 (x : Int) : Int := IntKind.i64.wrap x
@[reducible] def ibits (op : BinOp) (k : IntKind) (x y : Int) : Int :=
  match op with
  | .and => k.wrap (BitVec.ofInt k.bits x &&& BitVec.ofInt k.bits y).toNat
  | .or => k.wrap (BitVec.ofInt k.bits x ||| BitVec.ofInt k.bits y).toNat
  | .xor => k.wrap (BitVec.ofInt k.bits x ^^^ BitVec.ofInt k.bits y).toNat
  | _ => k.wrap (BitVec.ofInt k.bits x &&& ~~~BitVec.ofInt k.bits y).toNat

end Go.Proofs.Ytpnbehgkbfhacaa.K
