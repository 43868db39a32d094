/- Rules for what strings.Builder does: pointers of no type, its own address, its bytes as a text. -/
import Derived.Test.YtpnbehgkbfhacaaSatDraw
import Derived.Lib.UnsafeStr
import Derived.Lib.Builder
set_option linter.unusedVariables false
set_option linter.unusedSimpArgs false
namespace Go.Proofs.Ytpnbehgkbfhacaa.K
open Go

section
variable {P : Program} {ρ : Operand → Value} {o : Oper} {H : SH}
theorem Sat.shape {w : World} (h : Sat H w) {b : Nat} {ob : AO} (hb : H b = some ob) (hm : ob.ro = false ∨ ob.cells ≠ [] ∨ ob.size ≠ 0) : w.shape? b = some (ob.ty, ob.size) := by
  obtain ⟨_, rest, fz, he, hs, _⟩ := (h b ob hb).got hm
  simp [World.shape?, he, ← hs]
/-- What lies there may be seen as a pointer of no type. -/
def Seen (H : SH) (p : Nat × Nat) : Prop := ∃ ob, H p.1 = some ob ∧ p.2 < ob.size
theorem ev_toUns {S T t : TypeId} {x : Operand} {p : Nat × Nat} (ho : o.op = .convert S T x) (hS : P.underlying S = some (.pointer t)) (hT : P.underlying T = some .unsafePointer) (hi : (P.info? t).map (fun i => i.size != 0) = some true) (hx : ρ x = pv (some p)) (hs : Seen H p)
    (w : World) (hw : Sat H w) : (execOp ρ o).run P w = .ok (.value (pv (some p))) w := by
  obtain ⟨j, hj, hz⟩ := Option.map_eq_some_iff.1 hi
  obtain ⟨ob, hb, hlt⟩ := hs
  have := Go.Lib.run_to_unsafe (P := P) w (ad p) hS hT hj (by simpa using hz) (hw.shape hb (.inr (.inr (by omega)))) hlt
  unfold execOp
  simp only [ho, hx, Sem.run_bind]
  unfold pv
  simp only [Option.map_some]
  rw [this]; rfl
/-- A thing of this type lies there. -/
def Lies (P : Program) (H : SH) (p : Nat × Nat) (u : TypeId) : Prop := ∃ ob, H p.1 = some ob ∧ liesAt P P.depth ob.ty (ob.size / P.cellsOf ob.ty) p.2 u 1 = true ∧ ob.size ≠ 0
theorem ev_ofUns {S T u : TypeId} {x : Operand} {p : Nat × Nat} (ho : o.op = .convert S T x) (hS : P.underlying S = some .unsafePointer) (hT : P.underlying T = some (.pointer u)) (hi : (P.info? u).isSome = true) (hx : ρ x = pv (some p)) (hs : Lies P H p u)
    (w : World) (hw : Sat H w) : (execOp ρ o).run P w = .ok (.value (pv (some p))) w := by
  obtain ⟨j, hj⟩ := Option.isSome_iff_exists.1 hi
  obtain ⟨ob, hb, hl, hne⟩ := hs
  have := Go.Lib.run_from_unsafe (P := P) w (ad p) hS hT hj (hw.shape hb (.inr (.inr hne))) hl
  unfold execOp
  simp only [ho, hx, Sem.run_bind]
  unfold pv
  simp only [Option.map_some]
  rw [this]; rfl
theorem ev_ptrSame {T U t : TypeId} {x y : Operand} {p : Nat × Nat} (ho : o.op = .binOp .neq T x y U) (hT : P.underlying T = some (.pointer t)) (hi : (P.info? t).isSome = true) (hx : ρ x = pv (some p)) (hy : ρ y = pv (some p)) (w : World) : (execOp ρ o).run P w = .ok (.value (.bool false)) w := by
  obtain ⟨j, hj⟩ := Option.isSome_iff_exists.1 hi
  have := Go.Lib.run_neq_ptr_same (P := P) w (ad p) hT hj
  unfold execOp
  simp only [ho, hx, hy, Sem.run_bind]
  unfold pv
  simp only [Option.map_some]
  have he : (eqGuard .neq T x y (.pointer (some (ad p))) (.pointer (some (ad p)))).run P w = .ok () w := rfl
  rw [he, Result.andThen_ok, this]; rfl
theorem ev_sdata {T : TypeId} {x : Operand} {s : Sl} (ho : o.op = .call { callee := .builtin .unsafeSliceData, args := #[x], argTypes := #[T] }) (hx : ρ x = sv s) (hc : s.a ≠ none → s.cap ≠ 0) (w : World) : (execOp ρ o).run P w = .ok (.value (pv s.a)) w := by
  have h : ∀ ty, (Builtin.unsafeSliceData_ #[T] ty #[sv s]).run P w = .ok (pv s.a) w := fun ty => by
    cases ha : s.a with
    | none => unfold sv pv; rw [ha]; exact Go.Lib.run_unsafeSliceData_nil ..
    | some p => unfold sv pv; rw [ha]; exact Go.Lib.run_unsafeSliceData_row (hc := hc (by rw [ha]; simp)) ..
  unfold execOp
  simp [ho, hx, resolve, invoke, builtin, h]
end
section
variable {P : Program} {n : Nat} {fr : Fr} {H : SH} {Q : Post} {ops : Array Oper} {o : Oper} {l : List Oper}
/-- It is only read from now on. -/
def SH.fz (H : SH) (a : Option (Nat × Nat)) : SH := match a with
  | none => H
  | some p => match H p.1 with
    | some o => H.upd p.1 { o with ro := true }
    | none => H
/-- The bytes lie there, and may be sealed. -/
def UStr (H : SH) (E : TypeId) (a : Option (Nat × Nat)) (bs : List UInt8) : Prop := bs = [] ∨ ∃ (b : Nat) (o : AO), a = some (b, 0) ∧ H b = some o ∧ o.ro = false ∧ o.ty = E ∧ bs.length ≤ o.size ∧ ∀ (j : Nat) (u : Value), (byteCells bs)[j]? = some u → o.cells[j]? = some u
theorem St.fz {w : World} (hw : Sat H w) {b : Nat} {ob : AO} (hb : H b = some ob) (hr : ob.ro = false) (m : Nat) : St w H (H.upd b { ob with ro := true }) (w.freeze ⟨b, 0, none⟩ m) := by
  have hk : ∀ c, c ≠ b → (w.freeze ⟨b, 0, none⟩ m).heap[c]? = w.heap[c]? := fun c hc => by
    unfold World.freeze
    split
    · rfl
    · simp [Array.getElem?_modify, Ne.symm hc]
  have hsz : (w.freeze ⟨b, 0, none⟩ m).heap.size = w.heap.size := by unfold World.freeze; split <;> simp
  refine ⟨by unfold World.freeze; split <;> rfl, by unfold World.freeze; split <;> rfl, by unfold World.freeze; split <;> rfl, by rw [hsz]; exact Nat.le_refl _, fun c hc hro => hk c ?_, fun c oc hc => ?_, fun c oc hc => ?_⟩
  · rintro rfl; have := hro ob hb; simp [AO.fix, hr] at this
  · by_cases hcb : c = b
    · subst hcb
      rw [SH.upd_same] at hc; cases hc
      obtain ⟨hmn, rest, fz, h1, h2, _⟩ := (hw c ob hb).got (.inl hr)
      refine SatO.mk hmn ?_
      unfold World.freeze
      split
      · exact ⟨rest, fz, h1, h2, fun h => by cases h⟩
      · refine ⟨rest, if fz.1 == fz.2 then (0, 0 + m) else (min fz.1 0, max fz.2 (0 + m)), ?_, h2, fun h => by cases h⟩
        obtain ⟨lo, hi⟩ := fz
        simp [Array.getElem?_modify, h1]
    · rw [SH.upd_ne _ _ hcb] at hc
      rw [hk c hcb]; exact hw c oc hc
  · by_cases hcb : c = b
    · subst hcb
      rw [SH.upd_same] at hc; cases hc; exact .inl ⟨_, hb, fun h => by revert h; simp only [AO.fix]; cases ob.ro <;> simp⟩
    · rw [SH.upd_ne _ _ hcb] at hc
      exact .inl ⟨oc, hc, id⟩
theorem St.fz0 {w : World} (hw : Sat H w) (b : Nat) {ob : AO} (hb : H b = some ob) : St w H (H.upd b { ob with ro := true }) w := by
  refine ⟨rfl, rfl, rfl, Nat.le_refl _, fun _ _ _ => rfl, fun c oc hc => ?_, fun c oc hc => ?_⟩
  · by_cases hcb : c = b
    · subst hcb
      rw [SH.upd_same] at hc; cases hc
      have := hw c ob hb
      unfold SatO at this ⊢
      simp only []
      split at this
      · rename_i hn; rw [hn]; obtain ⟨rest, fz, h1, h2, _⟩ := this; exact ⟨rest, fz, h1, h2, fun h => by cases h⟩
      · rename_i es hn; rw [hn]; obtain ⟨⟨h1, h2, h3⟩, h4⟩ := this; exact ⟨⟨h1, trivial, h3⟩, h4⟩
    · rw [SH.upd_ne _ _ hcb] at hc; exact hw c oc hc
  · by_cases hcb : c = b
    · subst hcb
      rw [SH.upd_same] at hc; cases hc; exact .inl ⟨_, hb, fun h => by revert h; simp only [AO.fix]; cases ob.ro <;> simp⟩
    · rw [SH.upd_ne _ _ hcb] at hc
      exact .inl ⟨oc, hc, id⟩
/-- The bytes as a text: they are sealed. -/
theorem SOps.ustr {pt it E : TypeId} {p' n' : Operand} {d : Nat} {a : Option (Nat × Nat)} {bs : List UInt8} {m : Int} (ho : o.op = .call { callee := .builtin .unsafeString, args := #[p', n'], argTypes := #[pt, it] }) (hd : o.dst = some d) (hg : wantF n ops fr o = true)
    (hp : P.underlying pt = some (.pointer E)) (hE : P.cellsOf E = 1) (hx : evF n fr p' = pv a) (hn : evF n fr n' = .int .i64 m) (hm : m = bs.length) (h63 : bs.length ≤ 9223372036854775807) (hu : UStr H E a bs)
    (h : SOps P n ops l (fr.upd d (.string ⟨bs.toArray⟩)) (H.fz a) Q) : SOps P n ops (o :: l) fr H Q := by
  refine SOps.step (R := fun v' H' => v' = .string ⟨bs.toArray⟩ ∧ H' = H.fz a) hd hg (fun w hw => ?_) (fun v' H' ⟨e1, e2⟩ => by subst e1; subst e2; exact h)
  have key : ∀ ty, ∃ w', (Builtin.unsafeString_ #[pt, it] ty #[pv a, .int .i64 m]).run P w = .ok (.string ⟨bs.toArray⟩) w' ∧ St w H (H.fz a) w' := fun ty => by
    by_cases h0 : bs = []
    · subst h0
      subst hm
      refine ⟨w, ?_, ?_⟩
      · have := Go.Lib.run_unsafeString_none (P := P) w pt it ty (a.map ad)
        exact this
      · unfold SH.fz
        split
        · exact .refl hw
        · rename_i p
          split
          · rename_i ob hb; exact St.fz0 hw _ hb
          · exact .refl hw
    · rcases hu with hu | ⟨b, ob, rfl, hb, hr, rfl, hlen, hc⟩
      · exact absurd hu h0
      · subst hm
        refine ⟨_, Go.Lib.run_unsafeString_row (P := P) w pt it ty ob.ty hp hE b ob.size (hw.shape hb (.inl hr)) bs h0 hlen h63 (fun j x hj => ?_), ?_⟩
        · have := hw.cell (p := (b, j)) (v := .int .u8 x.toNat) ⟨ob, hb, hc j _ (by simp [byteCells, hj])⟩
          have e := add_ad (b, 0) j
          simp only [Nat.zero_add] at e
          rw [show ((⟨b, 0, none⟩ : Addr).add j) = ad (b, j) from e]
          exact this
        · unfold SH.fz
          simp only [hb]
          exact St.fz hw hb hr _
  obtain ⟨w', h1, h2⟩ := key o.type
  refine ⟨.string ⟨bs.toArray⟩, H.fz a, w', .inl ?_, h2, rfl, rfl⟩
  unfold execOp
  simp [ho, hx, hn, resolve, invoke, builtin, h1]
end
end Go.Proofs.Ytpnbehgkbfhacaa.K
