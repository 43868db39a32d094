/- errors.As at the targets of package api: what the entries for internal/reflectlite come to. -/
import Derived.Test.YtkfbmoekghbgbaaDoorErr
import Derived.LaidEql
import Derived.Laws.Externs
import Derived.Stop.Asserts
import Derived.RowKitTokens
set_option linter.unusedVariables false
set_option linter.unusedSimpArgs false
set_option maxRecDepth 100000
namespace Go.Proofs.YtkfbmoekghbgbaaDoor.K
open Go Go.Extern Go.Extern.Stop Go.Stop

def rtv (t : TypeId) : Value := .iface 132 (.agg #[.pointer (some ⟨1, t, none⟩)])
def rvv (t : TypeId) (a : Nat × Nat) (k : Int) : Value := .agg #[.pointer (some ⟨1, t, none⟩), pv (some a), .int .u64 k]

section
variable {P : Program} {n : Nat} {fr : Fr} {H : SH} {Q : Post} {ops : Array Oper} {o : Oper} {l : List Oper}
/-- An entry that makes one block. -/
theorem SOps.xalloc {d : Nat} {mk : Nat → Value} {cs : Array Value} {t : TypeId} (hd : o.dst = some d) (hg : wantF n ops fr o = true) (h : ∀ w, (execOp (evF n fr) o).run P w = .ok (.value (mk w.heap.size)) (w.alloc (.cells cs t)))
    (hn : ∀ b, H b = none → SOps P n ops l (fr.upd d (mk b)) (H.upd b ⟨cs.toList, t, false, cs.size⟩) Q) : SOps P n ops (o :: l) fr H Q := by
  refine SOps.step (R := fun v' H' => ∃ b, H b = none ∧ v' = mk b ∧ H' = H.upd b ⟨cs.toList, t, false, cs.size⟩) hd hg (fun w hw => ?_) (fun v' H' ⟨b, hb, e1, e2⟩ => by subst e1; subst e2; exact hn b hb)
  have := St.alloc hw cs t
  exact ⟨_, _, _, .inl (h w), this.2, w.heap.size, this.1, rfl, rfl⟩
end

theorem xValueOfE (a : Nat × Nat) (w : World) : (ReflectliteValue.unpack (.iface 72 (pv (some a)))).run Tryd.prog w = .ok (rvv 72 (w.heap.size, 0) 150) (w.alloc (.cells #[pv (some a)] 72)) := by kernel_rfl
theorem xValueOfF (a : Nat × Nat) (w : World) : (ReflectliteValue.unpack (.iface 92 (pv (some a)))).run Tryd.prog w = .ok (rvv 92 (w.heap.size, 0) 150) (w.alloc (.cells #[pv (some a)] 92)) := by kernel_rfl
theorem xValueOfN (c : Int) (w : World) : (ReflectliteValue.unpack (EV.no c).val).run Tryd.prog w = .ok (rvv 70 (w.heap.size, 0) 130) (w.alloc (.cells #[.int .i64 c] 70)) := by kernel_rfl
theorem xValueOfG (p : Int) (w : World) : (ReflectliteValue.unpack (EV.fault0 p).val).run Tryd.prog w = .ok (rvv 91 (w.heap.size, 0) 153) (w.alloc (.cells #[.int .i64 p, .nilIface] 91)) := by kernel_rfl
theorem xTypeE (a : Nat × Nat) (w : World) : (ReflectliteValue.methodAny (ReflectliteValue.valueError "reflectlite.Value.Type" 0) (fun t _ _ _ => ReflectliteType.toType t) #[rvv 72 a 150]).run Tryd.prog w = .ok (rtv 72) w := by kernel_rfl

theorem one_pair {k : IntKind} {z : Int} {u : Value} (hu : u.oneCell' = true) : ∀ v ∈ [Value.int k z, u], v.oneCell' = true := by
  intro v hv
  simp only [List.mem_cons, List.not_mem_nil, or_false] at hv
  rcases hv with rfl | rfl
  · rfl
  · exact hu

/-! ### what is found along an error's chain -/
def EV.depth : EV → Nat
  | .no _ => 0
  | .fault0 _ => 0
  | .fault _ e => e.depth + 1
def findE : EV → Option (List Value)
  | .no c => some [.int .i64 c]
  | .fault0 _ => none
  | .fault _ e => findE e
def findF : EV → Option (List Value)
  | .no _ => none
  | .fault0 p => some [.int .i64 p, .nilIface]
  | .fault p e => some [.int .i64 p, errV (some e)]

/-! ### the entries that read, or write, memory -/
theorem rlm (z : Sem Value) (f : TypeId → Addr → Nat → Nat → Sem Value) (v : Value) :
    ReflectliteValue.method z f #[v] = (do match ← ReflectliteValue.parts v with | none => z | some (t, a, fl) => f t a fl (fl % 32)) := rfl
theorem xPartsE (a : Nat × Nat) (w : World) : (ReflectliteValue.parts (rvv 72 a 150)).run Tryd.prog w = .ok (some (72, ad a, 150)) w := by kernel_rfl
theorem xPartsF (a : Nat × Nat) (w : World) : (ReflectliteValue.parts (rvv 92 a 150)).run Tryd.prog w = .ok (some (92, ad a, 150)) w := by kernel_rfl
theorem xIsNilE0 {c : Nat} {a : Nat × Nat} {W : World} (ha : W.cell? (ad (c, 0)) = some (pv (some a))) :
    (ReflectliteValue.method (ReflectliteValue.valueError "reflectlite.Value.IsNil" 0) ReflectliteValue.isNil #[rvv 72 (c, 0) 150]).run Tryd.prog W = .ok (.bool false) W := by
  rw [rlm]
  simp only [Sem.run_bind, xPartsE, Result.andThen]
  simp [ReflectliteValue.isNil, loadVar, isAgg, underlying, Tryd.underlying72, ha, Result.andThen, pv]
theorem xIsNilF0 {c : Nat} {a : Nat × Nat} {W : World} (ha : W.cell? (ad (c, 0)) = some (pv (some a))) :
    (ReflectliteValue.method (ReflectliteValue.valueError "reflectlite.Value.IsNil" 0) ReflectliteValue.isNil #[rvv 92 (c, 0) 150]).run Tryd.prog W = .ok (.bool false) W := by
  rw [rlm]
  simp only [Sem.run_bind, xPartsF, Result.andThen]
  simp [ReflectliteValue.isNil, loadVar, isAgg, underlying, Tryd.underlying92, ha, Result.andThen, pv]
theorem xElemOfE (w : World) : (Rtype.elem? 72).run Tryd.prog w = .ok (some 70) w := by kernel_rfl
theorem xElemOfF (w : World) : (Rtype.elem? 92).run Tryd.prog w = .ok (some 91) w := by kernel_rfl
theorem xMkE (p : Nat × Nat) (w : World) : (ReflectliteValue.mk 70 (ad p) ReflectliteValue.flagAddr).run Tryd.prog w = .ok (rvv 70 p 386) w := by kernel_rfl
theorem xMkF (p : Nat × Nat) (w : World) : (ReflectliteValue.mk 91 (ad p) ReflectliteValue.flagAddr).run Tryd.prog w = .ok (rvv 91 p 409) w := by kernel_rfl
theorem xElemE0 {c : Nat} {a : Nat × Nat} {W : World} (ha : W.cell? (ad (c, 0)) = some (pv (some a))) :
    (ReflectliteValue.method (ReflectliteValue.valueError "reflectlite.Value.Elem" 0) ReflectliteValue.elem #[rvv 72 (c, 0) 150]).run Tryd.prog W = .ok (rvv 70 a 386) W := by
  rw [rlm]
  simp only [Sem.run_bind, xPartsE, Result.andThen]
  simp [ReflectliteValue.elem, loadVar, isAgg, underlying, Tryd.underlying72, ha, Result.andThen, xElemOfE, xMkE, pv]
theorem xElemF0 {c : Nat} {a : Nat × Nat} {W : World} (ha : W.cell? (ad (c, 0)) = some (pv (some a))) :
    (ReflectliteValue.method (ReflectliteValue.valueError "reflectlite.Value.Elem" 0) ReflectliteValue.elem #[rvv 92 (c, 0) 150]).run Tryd.prog W = .ok (rvv 91 a 409) W := by
  rw [rlm]
  simp only [Sem.run_bind, xPartsF, Result.andThen]
  simp [ReflectliteValue.elem, loadVar, isAgg, underlying, Tryd.underlying92, ha, Result.andThen, xElemOfF, xMkF, pv]
theorem xNoAsN (v : Value) (xT : TypeId) (w : World) : (Instr.typeAssert (.iface 70 v) xT 137 true).run Tryd.prog w = .ok (.tuple #[.nilIface, .bool false]) w := run_typeAssert_lacksB Tryd.underlying137 (by kernel_rfl) (by kernel_rfl) v xT w
theorem xNoUnsN (v : Value) (xT : TypeId) (w : World) : (Instr.typeAssert (.iface 70 v) xT 142 true).run Tryd.prog w = .ok (.tuple #[.nilIface, .bool false]) w := run_typeAssert_lacksB Tryd.underlying142 (by kernel_rfl) (by kernel_rfl) v xT w
theorem xNoUnwN (v : Value) (xT : TypeId) (w : World) : (Instr.typeAssert (.iface 70 v) xT 140 true).run Tryd.prog w = .ok (.tuple #[.nilIface, .bool false]) w := run_typeAssert_lacksB Tryd.underlying140 (by kernel_rfl) (by kernel_rfl) v xT w
theorem xNoAsF (v : Value) (xT : TypeId) (w : World) : (Instr.typeAssert (.iface 91 v) xT 137 true).run Tryd.prog w = .ok (.tuple #[.nilIface, .bool false]) w := run_typeAssert_lacksB Tryd.underlying137 (by kernel_rfl) (by kernel_rfl) v xT w
theorem xNoUnsF (v : Value) (xT : TypeId) (w : World) : (Instr.typeAssert (.iface 91 v) xT 142 true).run Tryd.prog w = .ok (.tuple #[.nilIface, .bool false]) w := run_typeAssert_lacksB Tryd.underlying142 (by kernel_rfl) (by kernel_rfl) v xT w
theorem xHasUnwF (v : Value) (xT : TypeId) (w : World) : (Instr.typeAssert (.iface 91 v) xT 140 true).run Tryd.prog w = .ok (.tuple #[.iface 91 v, .bool true]) w := run_typeAssert_hasB Tryd.underlying140 (by kernel_rfl) v xT w
theorem xassert {P : Program} {ρ : Operand → Value} {o : Oper} {x : Operand} {xT I t : TypeId} {v : Value} {u : Value → Value} (ho : o.op = .typeAssert x xT I true) (hx : ρ x = .iface t v) (h : ∀ v xT w, (Instr.typeAssert (.iface t v) xT I true).run P w = .ok (u v) w) (w : World) : (execOp ρ o).run P w = .ok (.value (u v)) w := by
  unfold execOp
  simp only [ho, hx, Sem.run_bind, h]; rfl
theorem xcall1 {P : Program} {ρ : Operand → Value} {o : Oper} {g : FuncId} {x : Operand} {ts : Array TypeId} {v : Value} (ho : o.op = .call { callee := .value (.func g), args := #[x], argTypes := ts }) (hk : ρ (.func g) = .func (.func g) #[] #[]) (hx : ρ x = v) (w : World) : (execOp ρ o).run P w = (callFunc g #[v]).run P w := by
  unfold execOp
  simp [ho, resolve, hk, hx, invoke, Deferred.ofValue]
theorem xcall2 {P : Program} {ρ : Operand → Value} {o : Oper} {g : FuncId} {x y : Operand} {ts : Array TypeId} {v u : Value} (ho : o.op = .call { callee := .value (.func g), args := #[x, y], argTypes := ts }) (hk : ρ (.func g) = .func (.func g) #[] #[]) (hx : ρ x = v) (hy : ρ y = u) (w : World) : (execOp ρ o).run P w = (callFunc g #[v, u]).run P w := by
  unfold execOp
  simp [ho, resolve, hk, hx, hy, invoke, Deferred.ofValue]
section
variable {n : Nat} {fr : Fr} {H : SH} {Q : Post} {ops : Array Oper} {o : Oper} {l : List Oper} {x : Operand} {ts : Array TypeId} {w : World} {c : Nat} {a : Nat × Nat}
theorem xIsNilE (hc : H.has (c, 0) (pv (some a))) (hw : Sat H w) (ho : o.op = .call { callee := .value (.func 57), args := #[x], argTypes := ts }) (hx : evF n fr x = rvv 72 (c, 0) 150) : (execOp (evF n fr) o).run Tryd.prog w = .ok (.value (.bool false)) w := by
  rw [xcall1 ho rfl hx, @run_callFunc_extern Tryd.prog 57 _ (ReflectliteValue.method (ReflectliteValue.valueError "reflectlite.Value.IsNil" 0) ReflectliteValue.isNil) Tryd.func57 (by kernel_rfl) (by kernel_rfl) (by kernel_rfl) (by kernel_rfl), xIsNilE0 (hw.cell hc)]; rfl
theorem xIsNilF (hc : H.has (c, 0) (pv (some a))) (hw : Sat H w) (ho : o.op = .call { callee := .value (.func 57), args := #[x], argTypes := ts }) (hx : evF n fr x = rvv 92 (c, 0) 150) : (execOp (evF n fr) o).run Tryd.prog w = .ok (.value (.bool false)) w := by
  rw [xcall1 ho rfl hx, @run_callFunc_extern Tryd.prog 57 _ (ReflectliteValue.method (ReflectliteValue.valueError "reflectlite.Value.IsNil" 0) ReflectliteValue.isNil) Tryd.func57 (by kernel_rfl) (by kernel_rfl) (by kernel_rfl) (by kernel_rfl), xIsNilF0 (hw.cell hc)]; rfl
theorem xElemE (hc : H.has (c, 0) (pv (some a))) (hw : Sat H w) (ho : o.op = .call { callee := .value (.func 78), args := #[x], argTypes := ts }) (hx : evF n fr x = rvv 72 (c, 0) 150) : (execOp (evF n fr) o).run Tryd.prog w = .ok (.value (rvv 70 a 386)) w := by
  rw [xcall1 ho rfl hx, @run_callFunc_extern Tryd.prog 78 _ (ReflectliteValue.method (ReflectliteValue.valueError "reflectlite.Value.Elem" 0) ReflectliteValue.elem) Tryd.func78 (by kernel_rfl) (by kernel_rfl) (by kernel_rfl) (by kernel_rfl), xElemE0 (hw.cell hc)]; rfl
theorem xElemF (hc : H.has (c, 0) (pv (some a))) (hw : Sat H w) (ho : o.op = .call { callee := .value (.func 78), args := #[x], argTypes := ts }) (hx : evF n fr x = rvv 92 (c, 0) 150) : (execOp (evF n fr) o).run Tryd.prog w = .ok (.value (rvv 91 a 409)) w := by
  rw [xcall1 ho rfl hx, @run_callFunc_extern Tryd.prog 78 _ (ReflectliteValue.method (ReflectliteValue.valueError "reflectlite.Value.Elem" 0) ReflectliteValue.elem) Tryd.func78 (by kernel_rfl) (by kernel_rfl) (by kernel_rfl) (by kernel_rfl), xElemF0 (hw.cell hc)]; rfl

theorem rls (v x : Value) : ReflectliteValue.set #[v, x] = (do
    let (some (dst, a, fl), some (src, b, _)) := (← ReflectliteValue.parts v, ← ReflectliteValue.parts x)
      | unsupported (.noEntry "extern/(internal/reflectlite.Value).Set.zeroValue")
    if fl / ReflectliteValue.flagAddr % 2 == 0 then unsupported (.noEntry "extern/(internal/reflectlite.Value).Set.unaddressable")
    let val ← loadVar src b
    if ← Rtype.directlyAssignable dst src then storeVar dst a val
    else if ← Rtype.implements dst src then
      if (← Rtype.kind src) == 20 then
        match val with
        | .nilIface => unsupported (.noEntry "extern/reflectlite: a nil value of one interface type handed on as a value of another")
        | _ => storeVar dst a val
      else storeVar dst a (.iface src val)
    else panicString ("reflectlite.Set: value of type " ++ (← Rtype.spelt src) ++ " is not assignable to type " ++ (← Rtype.spelt dst))
    pure (.tuple #[])) := rfl
theorem xPartsEa (a : Nat × Nat) (w : World) : (ReflectliteValue.parts (rvv 70 a 386)).run Tryd.prog w = .ok (some (70, ad a, 386)) w := by kernel_rfl
theorem xPartsEb (a : Nat × Nat) (w : World) : (ReflectliteValue.parts (rvv 70 a 130)).run Tryd.prog w = .ok (some (70, ad a, 130)) w := by kernel_rfl
theorem xPartsFa (a : Nat × Nat) (w : World) : (ReflectliteValue.parts (rvv 91 a 409)).run Tryd.prog w = .ok (some (91, ad a, 409)) w := by kernel_rfl
theorem xPartsFb (a : Nat × Nat) (w : World) : (ReflectliteValue.parts (rvv 91 a 153)).run Tryd.prog w = .ok (some (91, ad a, 153)) w := by kernel_rfl
theorem xDirE (w : World) : (Rtype.directlyAssignable 70 70).run Tryd.prog w = .ok true w := by kernel_rfl
theorem xDirF (w : World) : (Rtype.directlyAssignable 91 91).run Tryd.prog w = .ok true w := by kernel_rfl
/-- What 'Set' does: it writes what the block b holds. -/
theorem xSetE {cs : List Value} {b : Nat} {x y : Operand} {z : Int} {a : Nat × Nat} {H : SH} {d : Nat} (hx0 : evF n fr x = rvv 70 a 386) (hy0 : evF n fr y = rvv 70 (b, 0) 130) (hd : o.dst = some d) (hg : wantF n ops fr o = true) (hw : H.wrs a 1) (hb : H b = none) (hcs : cs = [.int .i64 z])
    (ho : o.op = .call { callee := .value (.func 79), args := #[x, y], argTypes := ts })
    (hn : SOps Tryd.prog n ops l (fr.upd d (.tuple #[])) (SH.setl (H.upd b ⟨cs, 70, false, 1⟩) a cs) Q) : SOps Tryd.prog n ops (o :: l) fr (H.upd b ⟨cs, 70, false, 1⟩) Q := by
  subst hcs
  have hne : a.1 ≠ b := by intro h1; obtain ⟨o, h2, _⟩ := hw; rw [h1, hb] at h2; cases h2
  have hw2 : (H.upd b ⟨[.int .i64 z], 70, false, 1⟩).wrs a 1 := by
    obtain ⟨x, h1, h2⟩ := hw; exact ⟨x, by rw [SH.upd_ne _ _ hne]; exact h1, h2⟩
  refine SOps.step (R := fun v H' => v = .tuple #[] ∧ H' = SH.setl (H.upd b ⟨[.int .i64 z], 70, false, 1⟩) a [.int .i64 z]) hd hg (fun w hs => ?_) (fun v H' ⟨e1, e2⟩ => by subst e1; subst e2; exact hn)
  have hcell : w.cell? (ad (b, 0)) = some (.int .i64 z) := hs.cell ⟨_, SH.upd_same _ _ _, rfl⟩
  obtain ⟨w', hr, hst⟩ := storeCells_St (P := Tryd.prog) (vs := [.int .i64 z]) hs hw2 (by simp [Value.oneCell'])
  refine ⟨_, _, w', .inl ?_, hst, rfl, rfl⟩
  rw [xcall2 ho rfl hx0 hy0, @run_callFunc_extern Tryd.prog 79 _ ReflectliteValue.set Tryd.func79 (by kernel_rfl) (by kernel_rfl) (by kernel_rfl) (by kernel_rfl), rls]
  have hsz : (Tryd.prog.info? 70).map (·.size) = some 1 := by kernel_rfl
  obtain ⟨inf, hinf, hsz'⟩ := Option.map_eq_some_iff.1 hsz
  simp only [Sem.run_bind, xPartsEa, xPartsEb, Result.andThen]
  simp [ReflectliteValue.flagAddr, loadVar, isAgg, underlying, Tryd.underlying70, hcell, Result.andThen, xDirE, storeVar, Value.cells, sizeOf, typeInfo, hinf, hsz', hr]
theorem xSetF {cs : List Value} {b : Nat} {x y : Operand} {z : Int} {u : Value} {a : Nat × Nat} {H : SH} {d : Nat} (hx0 : evF n fr x = rvv 91 a 409) (hy0 : evF n fr y = rvv 91 (b, 0) 153) (hd : o.dst = some d) (hg : wantF n ops fr o = true) (hw : H.wrs a 2) (hb : H b = none) (hcs : cs = [.int .i64 z, u]) (hu : u.oneCell' = true)
    (ho : o.op = .call { callee := .value (.func 79), args := #[x, y], argTypes := ts })
    (hn : SOps Tryd.prog n ops l (fr.upd d (.tuple #[])) (SH.setl (H.upd b ⟨cs, 91, false, 2⟩) a cs) Q) : SOps Tryd.prog n ops (o :: l) fr (H.upd b ⟨cs, 91, false, 2⟩) Q := by
  subst hcs
  have hne : a.1 ≠ b := by intro h1; obtain ⟨o, h2, _⟩ := hw; rw [h1, hb] at h2; cases h2
  have hw2 : (H.upd b ⟨[.int .i64 z, u], 91, false, 2⟩).wrs a 2 := by
    obtain ⟨x, h1, h2⟩ := hw; exact ⟨x, by rw [SH.upd_ne _ _ hne]; exact h1, h2⟩
  refine SOps.step (R := fun v H' => v = .tuple #[] ∧ H' = SH.setl (H.upd b ⟨[.int .i64 z, u], 91, false, 2⟩) a [.int .i64 z, u]) hd hg (fun w hs => ?_) (fun v H' ⟨e1, e2⟩ => by subst e1; subst e2; exact hn)
  have hcells : ∀ j v, [Value.int .i64 z, u][j]? = some v → w.cell? ((ad (b, 0)).add j) = some v := by
    intro j v hv
    obtain ⟨p', hp', h'⟩ := hs.row (a := some (b, 0)) (cs := [.int .i64 z, u]) (.inr ⟨(b, 0), _, rfl, SH.upd_same _ _ _, fun j u hu => by simpa using hu⟩) (by simp)
    cases hp'; exact h' j v hv
  have hload := run_loadCells_list (P := Tryd.prog) w (ad (b, 0)) _ hcells
  obtain ⟨w', hr, hst⟩ := storeCells_St (P := Tryd.prog) (vs := [.int .i64 z, u]) hs hw2 (one_pair hu)
  refine ⟨_, _, w', .inl ?_, hst, rfl, rfl⟩
  rw [xcall2 ho rfl hx0 hy0, @run_callFunc_extern Tryd.prog 79 _ ReflectliteValue.set Tryd.func79 (by kernel_rfl) (by kernel_rfl) (by kernel_rfl) (by kernel_rfl), rls]
  have hsz : (Tryd.prog.info? 91).map (·.size) = some 2 := by kernel_rfl
  obtain ⟨inf, hinf, hsz'⟩ := Option.map_eq_some_iff.1 hsz
  have hagg : ∀ w, (isAgg 91).run Tryd.prog w = .ok true w := fun _ => by kernel_rfl
  simp only [Sem.run_bind, xPartsFa, xPartsFb, Result.andThen]
  have hlen : [Value.int .i64 z, u].length = 2 := rfl
  rw [hlen] at hload
  simp [ReflectliteValue.flagAddr, loadVar, hagg, hload, Result.andThen, xDirF, storeVar, Value.cells, sizeOf, typeInfo, hinf, hsz', hr]
end
end Go.Proofs.YtkfbmoekghbgbaaDoor.K
