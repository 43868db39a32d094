import Derived.Test.YtknhlipealekoaaDoorGslices
import Derived.Test.YtknhlipealekoaaDoorSatWrit
set_option linter.unusedVariables false
set_option linter.unusedSimpArgs false
set_option maxRecDepth 100000
namespace Go.Proofs.YtknhlipealekoaaDoor.K
open Go
attribute [local irreducible] SW SOps SQ SCalls retQ

/-! ### lading/disk.New: function 10 -/
def disk_New.wp (F : Nat) (x1 : Int) (H : SH) (K : Option (Nat × Nat) → SH → Prop) : Prop :=
  0 ≤ (imin (imax x1 0) 4096) ∧ (imin (imax x1 0) 4096).toNat * 16 ≤ 281474976710656 ∧
  0 ≤ (imin (imax x1 0) 4096) ∧ (imin (imax x1 0) 4096).toNat * 16 ≤ 281474976710656 ∧
  ∀ b2, H b2 = none → 
  ∀ b6, H b6 = none → b6 ≠ b2 → 
  ∀ b10, H b10 = none → b10 ≠ b2 → b10 ≠ b6 → 
  ∃ Hr, SH.le Hr (SH.upd (SH.upd (SH.upd H b2 (⟨(Builtin.zeroCells (Value.cells (.string ByteArray.empty : Value)) (imin (imax x1 0) 4096).toNat).toList, 9, false, (imin (imax x1 0) 4096).toNat * 1⟩ : AO)) b6 (⟨(Builtin.zeroCells (Value.cells (.string ByteArray.empty : Value)) (imin (imax x1 0) 4096).toNat).toList, 9, false, (imin (imax x1 0) 4096).toNat * 1⟩ : AO)) b10 (⟨[.int .i64 (-1), .bool false, .string ByteArray.empty, sv (⟨some (b2, 0), (imin (imax x1 0) 4096).toNat, (imin (imax x1 0) 4096).toNat⟩ : Sl), .string ByteArray.empty, sv (⟨some (b6, 0), (imin (imax x1 0) 4096).toNat, (imin (imax x1 0) 4096).toNat⟩ : Sl), sv Sl.nil], 75, false, 7⟩ : AO)) ∧ K (some (b10, 0)) Hr
set_option maxHeartbeats 8000000 in
theorem disk_New.sound (F : Nat) (x1 : Int) (H : SH) (K : Option (Nat × Nat) → SH → Prop) (h : disk_New.wp F x1 H K) : SCalls Tryd.prog 10 #[.int .i64 x1] H (fun v H' => ∃ (p14 : Option (Nat × Nat)), v = pv p14 ∧ K p14 H') := by
  unfold disk_New.wp at h
  refine SCalls.body Tryd.func10 rfl (Nat.le_of_ble_eq_true rfl) ?_
  refine SW.seq ?_
  refine SW.region ?_
  refine SOps.val (v := pv none) rfl (wantN rfl) (fun _ => by kernel_rfl) ?_
  refine SOps.nil ?_
  refine SW.seq ?_
  refine SW.region ?_
  refine SOps.val (v := .int .i64 x1) rfl (wantN rfl) (fun _ => by kernel_rfl) ?_
  refine SOps.val (v := .int .i64 (imax x1 0)) rfl (wantN rfl) (fun _ => by kernel_rfl) ?_
  refine SOps.val (v := .int .i64 (imin (imax x1 0) 4096)) rfl (wantN rfl) (fun _ => by kernel_rfl) ?_
  refine SOps.val (v := .int .i64 (imin (imax x1 0) 4096)) rfl (wantN rfl) (fun _ => by kernel_rfl) ?_
  refine SOps.nil ?_
  refine SW.seq ?_
  obtain ⟨c4, c5, h⟩ := h
  obtain ⟨c8, c9, h⟩ := h
  refine SW.drawA [.val (.agg #[.int .i64 (-1), .bool false]), .val (.int .i64 (imin (imax x1 0) 4096)), .fresh 2 (fun b c => sv ⟨some (b, 0), (imin (imax x1 0) 4096).toNat, (imin (imax x1 0) 4096).toNat⟩) (fun c => (⟨(Builtin.zeroCells (Value.cells (.string ByteArray.empty : Value)) (imin (imax x1 0) 4096).toNat).toList, 9, false, (imin (imax x1 0) 4096).toNat * 1⟩ : AO)) (fun _ => True), .rel (fun H9 v9 T9 H8 => ∃ (b2 n3 : Nat), v9 = .agg #[.string ByteArray.empty, sv (⟨some (b2, 0), (imin (imax x1 0) 4096).toNat, (imin (imax x1 0) 4096).toNat⟩ : Sl)] ∧ NewB H9 T9 H8 2 b2 (⟨(Builtin.zeroCells (Value.cells (.string ByteArray.empty : Value)) (imin (imax x1 0) 4096).toNat).toList, 9, false, (imin (imax x1 0) 4096).toNat * 1⟩ : AO) (True) ∧ True) (by rintro _ _ _ _ _ _ ⟨b2, n3, e9, mb2, _⟩ hle hT; exact ⟨b2, n3, e9, mb2.mono hle hT, trivial⟩), .val (.int .i64 (imin (imax x1 0) 4096)), .fresh 5 (fun b c => sv ⟨some (b, 0), (imin (imax x1 0) 4096).toNat, (imin (imax x1 0) 4096).toNat⟩) (fun c => (⟨(Builtin.zeroCells (Value.cells (.string ByteArray.empty : Value)) (imin (imax x1 0) 4096).toNat).toList, 9, false, (imin (imax x1 0) 4096).toNat * 1⟩ : AO)) (fun _ => True), .rel (fun H9 v9 T9 H8 => ∃ (b6 n7 : Nat), v9 = .agg #[.string ByteArray.empty, sv (⟨some (b6, 0), (imin (imax x1 0) 4096).toNat, (imin (imax x1 0) 4096).toNat⟩ : Sl)] ∧ NewB H9 T9 H8 5 b6 (⟨(Builtin.zeroCells (Value.cells (.string ByteArray.empty : Value)) (imin (imax x1 0) 4096).toNat).toList, 9, false, (imin (imax x1 0) 4096).toNat * 1⟩ : AO) (True) ∧ True) (by rintro _ _ _ _ _ _ ⟨b6, n7, e9, mb6, _⟩ hle hT; exact ⟨b6, n7, e9, mb6.mono hle hT, trivial⟩), .rel (fun H9 v9 T9 H8 => ∃ (b2 n3 : Nat) (b6 n7 : Nat), v9 = .agg #[.int .i64 (-1), .bool false, .string ByteArray.empty, sv (⟨some (b2, 0), (imin (imax x1 0) 4096).toNat, (imin (imax x1 0) 4096).toNat⟩ : Sl), .string ByteArray.empty, sv (⟨some (b6, 0), (imin (imax x1 0) 4096).toNat, (imin (imax x1 0) 4096).toNat⟩ : Sl), sv Sl.nil] ∧ NewB H9 T9 H8 2 b2 (⟨(Builtin.zeroCells (Value.cells (.string ByteArray.empty : Value)) (imin (imax x1 0) 4096).toNat).toList, 9, false, (imin (imax x1 0) 4096).toNat * 1⟩ : AO) (True) ∧ NewB H9 T9 H8 5 b6 (⟨(Builtin.zeroCells (Value.cells (.string ByteArray.empty : Value)) (imin (imax x1 0) 4096).toNat).toList, 9, false, (imin (imax x1 0) 4096).toNat * 1⟩ : AO) (True) ∧ True) (by rintro _ _ _ _ _ _ ⟨b2, n3, b6, n7, e9, mb2, mb6, _⟩ hle hT; exact ⟨b2, n3, b6, n7, e9, mb2.mono hle hT, mb6.mono hle hT, trivial⟩), .rel (fun H9 v9 T9 H8 => ∃ (b2 n3 : Nat) (b6 n7 : Nat) (b10 n11 : Nat), v9 = pv (some (b10, 0)) ∧ NewB H9 T9 H8 2 b2 (⟨(Builtin.zeroCells (Value.cells (.string ByteArray.empty : Value)) (imin (imax x1 0) 4096).toNat).toList, 9, false, (imin (imax x1 0) 4096).toNat * 1⟩ : AO) (True) ∧ NewB H9 T9 H8 5 b6 (⟨(Builtin.zeroCells (Value.cells (.string ByteArray.empty : Value)) (imin (imax x1 0) 4096).toNat).toList, 9, false, (imin (imax x1 0) 4096).toNat * 1⟩ : AO) (True) ∧ NewB H9 T9 H8 8 b10 (⟨[.int .i64 (-1), .bool false, .string ByteArray.empty, sv (⟨some (b2, 0), (imin (imax x1 0) 4096).toNat, (imin (imax x1 0) 4096).toNat⟩ : Sl), .string ByteArray.empty, sv (⟨some (b6, 0), (imin (imax x1 0) 4096).toNat, (imin (imax x1 0) 4096).toNat⟩ : Sl), sv Sl.nil], 75, false, 7⟩ : AO) (True) ∧ True) (by rintro _ _ _ _ _ _ ⟨b2, n3, b6, n7, b10, n11, e9, mb2, mb6, mb10, _⟩ hle hT; exact ⟨b2, n3, b6, n7, b10, n11, e9, mb2.mono hle hT, mb6.mono hle hT, mb10.mono hle hT, trivial⟩), .rel (fun H9 v9 T9 H8 => ∃ (b2 n3 : Nat) (b6 n7 : Nat) (b10 n11 : Nat), v9 = pv (some (b10, 0)) ∧ NewB H9 T9 H8 2 b2 (⟨(Builtin.zeroCells (Value.cells (.string ByteArray.empty : Value)) (imin (imax x1 0) 4096).toNat).toList, 9, false, (imin (imax x1 0) 4096).toNat * 1⟩ : AO) (True) ∧ NewB H9 T9 H8 5 b6 (⟨(Builtin.zeroCells (Value.cells (.string ByteArray.empty : Value)) (imin (imax x1 0) 4096).toNat).toList, 9, false, (imin (imax x1 0) 4096).toNat * 1⟩ : AO) (True) ∧ NewB H9 T9 H8 8 b10 (⟨[.int .i64 (-1), .bool false, .string ByteArray.empty, sv (⟨some (b2, 0), (imin (imax x1 0) 4096).toNat, (imin (imax x1 0) 4096).toNat⟩ : Sl), .string ByteArray.empty, sv (⟨some (b6, 0), (imin (imax x1 0) 4096).toNat, (imin (imax x1 0) 4096).toNat⟩ : Sl), sv Sl.nil], 75, false, 7⟩ : AO) (True) ∧ True) (by rintro _ _ _ _ _ _ ⟨b2, n3, b6, n7, b10, n11, e9, mb2, mb6, mb10, _⟩ hle hT; exact ⟨b2, n3, b6, n7, b10, n11, e9, mb2.mono hle hT, mb6.mono hle hT, mb10.mono hle hT, trivial⟩)] (by kernel_rfl) (by kernel_rfl) (And.intro ?_ (And.intro ?_ (And.intro ?_ (And.intro ?_ (And.intro ?_ (And.intro ?_ (And.intro ?_ (And.intro ?_ (And.intro ?_ (And.intro ?_ (trivial))))))))))) ?_
  · clear h
    intro fr' T' H' hle hs hA
    exact SA.val (v := .agg #[.int .i64 (-1), .bool false]) rfl (wantN rfl) (fun _ => by kernel_rfl)
  · clear h
    intro fr' T' H' hle hs hA
    have a3 : fr' 3 = (.int .i64 (imin (imax x1 0) 4096) : Value) := hs 3 (by kernel_rfl)
    obtain ⟨g', hg'⟩ : ∃ g' : Fr, fr' = g'.upds [(3, (.int .i64 (imin (imax x1 0) 4096) : Value))] := ⟨_, Fr.upds_self _ _ ⟨a3, trivial⟩⟩
    subst hg'
    exact SA.val (v := .int .i64 (imin (imax x1 0) 4096)) rfl (wantN rfl) (fun _ => by kernel_rfl)
  · clear h
    intro fr' T' H' hle hs hA
    have a8 : fr' 8 = (.int .i64 (imin (imax x1 0) 4096) : Value) := hA 1 (by kernel_rfl)
    obtain ⟨g', hg'⟩ : ∃ g' : Fr, fr' = g'.upds [(8, (.int .i64 (imin (imax x1 0) 4096) : Value))] := ⟨_, Fr.upds_self _ _ ⟨a8, trivial⟩⟩
    subst hg'
    exact SA.fresh hle (fun h => SOps.make (z := .string ByteArray.empty) (size := 1) (bytes := 16) rfl rfl (wantN rfl) Tryd.underlying55 (by kernel_rfl) rfl (by decide) (by decide) rfl rfl c4 c5 (fun b c => h b 0 c trivial))
  · clear h
    intro fr' T' H' hle hs hA
    obtain ⟨b2, n3, a9, nb2, kb2, tb2, ob2⟩ := hA 2 (by kernel_rfl)
    obtain ⟨g', hg'⟩ : ∃ g' : Fr, fr' = g'.upds [(9, sv (⟨some (b2, 0), (imin (imax x1 0) 4096).toNat, (imin (imax x1 0) 4096).toNat⟩ : Sl))] := ⟨_, Fr.upds_self _ _ ⟨a9, trivial⟩⟩
    subst hg'
    exact SA.same (v := .agg #[.string ByteArray.empty, sv (⟨some (b2, 0), (imin (imax x1 0) 4096).toNat, (imin (imax x1 0) 4096).toNat⟩ : Sl)]) (a := .rel (fun H9 v9 T9 H8 => ∃ (b2 n3 : Nat), v9 = .agg #[.string ByteArray.empty, sv (⟨some (b2, 0), (imin (imax x1 0) 4096).toNat, (imin (imax x1 0) 4096).toNat⟩ : Sl)] ∧ NewB H9 T9 H8 2 b2 (⟨(Builtin.zeroCells (Value.cells (.string ByteArray.empty : Value)) (imin (imax x1 0) 4096).toNat).toList, 9, false, (imin (imax x1 0) 4096).toNat * 1⟩ : AO) (True) ∧ True) (by rintro _ _ _ _ _ _ ⟨b2, n3, e9, mb2, _⟩ hle hT; exact ⟨b2, n3, e9, mb2.mono hle hT, trivial⟩)) rfl (wantN rfl) (fun _ => by kernel_rfl) ⟨b2, n3, rfl, ⟨nb2, kb2, tb2, ob2⟩, trivial⟩
  · clear h
    intro fr' T' H' hle hs hA
    have a3 : fr' 3 = (.int .i64 (imin (imax x1 0) 4096) : Value) := hs 3 (by kernel_rfl)
    obtain ⟨g', hg'⟩ : ∃ g' : Fr, fr' = g'.upds [(3, (.int .i64 (imin (imax x1 0) 4096) : Value))] := ⟨_, Fr.upds_self _ _ ⟨a3, trivial⟩⟩
    subst hg'
    exact SA.val (v := .int .i64 (imin (imax x1 0) 4096)) rfl (wantN rfl) (fun _ => by kernel_rfl)
  · clear h
    intro fr' T' H' hle hs hA
    have a11 : fr' 11 = (.int .i64 (imin (imax x1 0) 4096) : Value) := hA 4 (by kernel_rfl)
    obtain ⟨g', hg'⟩ : ∃ g' : Fr, fr' = g'.upds [(11, (.int .i64 (imin (imax x1 0) 4096) : Value))] := ⟨_, Fr.upds_self _ _ ⟨a11, trivial⟩⟩
    subst hg'
    exact SA.fresh hle (fun h => SOps.make (z := .string ByteArray.empty) (size := 1) (bytes := 16) rfl rfl (wantN rfl) Tryd.underlying55 (by kernel_rfl) rfl (by decide) (by decide) rfl rfl c8 c9 (fun b c => h b 0 c trivial))
  · clear h
    intro fr' T' H' hle hs hA
    obtain ⟨b6, n7, a12, nb6, kb6, tb6, ob6⟩ := hA 5 (by kernel_rfl)
    obtain ⟨g', hg'⟩ : ∃ g' : Fr, fr' = g'.upds [(12, sv (⟨some (b6, 0), (imin (imax x1 0) 4096).toNat, (imin (imax x1 0) 4096).toNat⟩ : Sl))] := ⟨_, Fr.upds_self _ _ ⟨a12, trivial⟩⟩
    subst hg'
    exact SA.same (v := .agg #[.string ByteArray.empty, sv (⟨some (b6, 0), (imin (imax x1 0) 4096).toNat, (imin (imax x1 0) 4096).toNat⟩ : Sl)]) (a := .rel (fun H9 v9 T9 H8 => ∃ (b6 n7 : Nat), v9 = .agg #[.string ByteArray.empty, sv (⟨some (b6, 0), (imin (imax x1 0) 4096).toNat, (imin (imax x1 0) 4096).toNat⟩ : Sl)] ∧ NewB H9 T9 H8 5 b6 (⟨(Builtin.zeroCells (Value.cells (.string ByteArray.empty : Value)) (imin (imax x1 0) 4096).toNat).toList, 9, false, (imin (imax x1 0) 4096).toNat * 1⟩ : AO) (True) ∧ True) (by rintro _ _ _ _ _ _ ⟨b6, n7, e9, mb6, _⟩ hle hT; exact ⟨b6, n7, e9, mb6.mono hle hT, trivial⟩)) rfl (wantN rfl) (fun _ => by kernel_rfl) ⟨b6, n7, rfl, ⟨nb6, kb6, tb6, ob6⟩, trivial⟩
  · clear h
    intro fr' T' H' hle hs hA
    have a7 : fr' 7 = (.agg #[.int .i64 (-1), .bool false] : Value) := hA 0 (by kernel_rfl)
    obtain ⟨b2, n3, a10, ⟨nb2, kb2, tb2, ob2⟩, _⟩ := hA 3 (by kernel_rfl)
    obtain ⟨b6, n7, a13, ⟨nb6, kb6, tb6, ob6⟩, _⟩ := hA 6 (by kernel_rfl)
    obtain ⟨g', hg'⟩ : ∃ g' : Fr, fr' = g'.upds [(7, (.agg #[.int .i64 (-1), .bool false] : Value)), (10, (.agg #[.string ByteArray.empty, sv (⟨some (b2, 0), (imin (imax x1 0) 4096).toNat, (imin (imax x1 0) 4096).toNat⟩ : Sl)] : Value)), (13, (.agg #[.string ByteArray.empty, sv (⟨some (b6, 0), (imin (imax x1 0) 4096).toNat, (imin (imax x1 0) 4096).toNat⟩ : Sl)] : Value))] := ⟨_, Fr.upds_self _ _ ⟨a7, a10, a13, trivial⟩⟩
    subst hg'
    exact SA.same (v := .agg #[.int .i64 (-1), .bool false, .string ByteArray.empty, sv (⟨some (b2, 0), (imin (imax x1 0) 4096).toNat, (imin (imax x1 0) 4096).toNat⟩ : Sl), .string ByteArray.empty, sv (⟨some (b6, 0), (imin (imax x1 0) 4096).toNat, (imin (imax x1 0) 4096).toNat⟩ : Sl), sv Sl.nil]) (a := .rel (fun H9 v9 T9 H8 => ∃ (b2 n3 : Nat) (b6 n7 : Nat), v9 = .agg #[.int .i64 (-1), .bool false, .string ByteArray.empty, sv (⟨some (b2, 0), (imin (imax x1 0) 4096).toNat, (imin (imax x1 0) 4096).toNat⟩ : Sl), .string ByteArray.empty, sv (⟨some (b6, 0), (imin (imax x1 0) 4096).toNat, (imin (imax x1 0) 4096).toNat⟩ : Sl), sv Sl.nil] ∧ NewB H9 T9 H8 2 b2 (⟨(Builtin.zeroCells (Value.cells (.string ByteArray.empty : Value)) (imin (imax x1 0) 4096).toNat).toList, 9, false, (imin (imax x1 0) 4096).toNat * 1⟩ : AO) (True) ∧ NewB H9 T9 H8 5 b6 (⟨(Builtin.zeroCells (Value.cells (.string ByteArray.empty : Value)) (imin (imax x1 0) 4096).toNat).toList, 9, false, (imin (imax x1 0) 4096).toNat * 1⟩ : AO) (True) ∧ True) (by rintro _ _ _ _ _ _ ⟨b2, n3, b6, n7, e9, mb2, mb6, _⟩ hle hT; exact ⟨b2, n3, b6, n7, e9, mb2.mono hle hT, mb6.mono hle hT, trivial⟩)) rfl (wantN rfl) (fun _ => by kernel_rfl) ⟨b2, n3, b6, n7, rfl, ⟨nb2, kb2, tb2, ob2⟩, ⟨nb6, kb6, tb6, ob6⟩, trivial⟩
  · clear h
    intro fr' T' H' hle hs hA
    obtain ⟨b2, n3, b6, n7, a14, ⟨nb2, kb2, tb2, ob2⟩, ⟨nb6, kb6, tb6, ob6⟩, _⟩ := hA 7 (by kernel_rfl)
    obtain ⟨g', hg'⟩ : ∃ g' : Fr, fr' = g'.upds [(14, (.agg #[.int .i64 (-1), .bool false, .string ByteArray.empty, sv (⟨some (b2, 0), (imin (imax x1 0) 4096).toNat, (imin (imax x1 0) 4096).toNat⟩ : Sl), .string ByteArray.empty, sv (⟨some (b6, 0), (imin (imax x1 0) 4096).toNat, (imin (imax x1 0) 4096).toNat⟩ : Sl), sv Sl.nil] : Value))] := ⟨_, Fr.upds_self _ _ ⟨a14, trivial⟩⟩
    subst hg'
    exact SA.freshR (tag := 8) (mk := fun b c => pv (some (b, 0))) (ao := fun c => (⟨[.int .i64 (-1), .bool false, .string ByteArray.empty, sv (⟨some (b2, 0), (imin (imax x1 0) 4096).toNat, (imin (imax x1 0) 4096).toNat⟩ : Sl), .string ByteArray.empty, sv (⟨some (b6, 0), (imin (imax x1 0) 4096).toNat, (imin (imax x1 0) 4096).toNat⟩ : Sl), sv Sl.nil], 75, false, 7⟩ : AO)) (ok := fun _ => True) (p := fun H9 v9 T9 H8 => ∃ (b2 n3 : Nat) (b6 n7 : Nat) (b10 n11 : Nat), v9 = pv (some (b10, 0)) ∧ NewB H9 T9 H8 2 b2 (⟨(Builtin.zeroCells (Value.cells (.string ByteArray.empty : Value)) (imin (imax x1 0) 4096).toNat).toList, 9, false, (imin (imax x1 0) 4096).toNat * 1⟩ : AO) (True) ∧ NewB H9 T9 H8 5 b6 (⟨(Builtin.zeroCells (Value.cells (.string ByteArray.empty : Value)) (imin (imax x1 0) 4096).toNat).toList, 9, false, (imin (imax x1 0) 4096).toNat * 1⟩ : AO) (True) ∧ NewB H9 T9 H8 8 b10 (⟨[.int .i64 (-1), .bool false, .string ByteArray.empty, sv (⟨some (b2, 0), (imin (imax x1 0) 4096).toNat, (imin (imax x1 0) 4096).toNat⟩ : Sl), .string ByteArray.empty, sv (⟨some (b6, 0), (imin (imax x1 0) 4096).toNat, (imin (imax x1 0) 4096).toNat⟩ : Sl), sv Sl.nil], 75, false, 7⟩ : AO) (True) ∧ True) (mono := (by rintro _ _ _ _ _ _ ⟨b2, n3, b6, n7, b10, n11, e9, mb2, mb6, mb10, _⟩ hle hT; exact ⟨b2, n3, b6, n7, b10, n11, e9, mb2.mono hle hT, mb6.mono hle hT, mb10.mono hle hT, trivial⟩)) hle (fun b c hH hb hc => ⟨b2, n3, b6, n7, b, c, rfl, NewB.beside ⟨nb2, kb2, tb2, ob2⟩ hb, NewB.beside ⟨nb6, kb6, tb6, ob6⟩ hb, ⟨hH, SH.upd_same _ _ _, if_pos rfl, hc⟩, trivial⟩) (fun h => SOps.box rfl rfl (wantN rfl) (v := .agg #[.int .i64 (-1), .bool false, .string ByteArray.empty, sv (⟨some (b2, 0), (imin (imax x1 0) 4096).toNat, (imin (imax x1 0) 4096).toNat⟩ : Sl), .string ByteArray.empty, sv (⟨some (b6, 0), (imin (imax x1 0) 4096).toNat, (imin (imax x1 0) 4096).toNat⟩ : Sl), sv Sl.nil]) rfl (fun b c => h b 0 c trivial))
  · clear h
    intro fr' T' H' hle hs hA
    obtain ⟨b2, n3, b6, n7, b10, n11, a15, ⟨nb2, kb2, tb2, ob2⟩, ⟨nb6, kb6, tb6, ob6⟩, ⟨nb10, kb10, tb10, ob10⟩, _⟩ := hA 8 (by kernel_rfl)
    obtain ⟨g', hg'⟩ : ∃ g' : Fr, fr' = g'.upds [(15, pv (some (b10, 0)))] := ⟨_, Fr.upds_self _ _ ⟨a15, trivial⟩⟩
    subst hg'
    exact SA.same (v := pv (some (b10, 0))) (a := .rel (fun H9 v9 T9 H8 => ∃ (b2 n3 : Nat) (b6 n7 : Nat) (b10 n11 : Nat), v9 = pv (some (b10, 0)) ∧ NewB H9 T9 H8 2 b2 (⟨(Builtin.zeroCells (Value.cells (.string ByteArray.empty : Value)) (imin (imax x1 0) 4096).toNat).toList, 9, false, (imin (imax x1 0) 4096).toNat * 1⟩ : AO) (True) ∧ NewB H9 T9 H8 5 b6 (⟨(Builtin.zeroCells (Value.cells (.string ByteArray.empty : Value)) (imin (imax x1 0) 4096).toNat).toList, 9, false, (imin (imax x1 0) 4096).toNat * 1⟩ : AO) (True) ∧ NewB H9 T9 H8 8 b10 (⟨[.int .i64 (-1), .bool false, .string ByteArray.empty, sv (⟨some (b2, 0), (imin (imax x1 0) 4096).toNat, (imin (imax x1 0) 4096).toNat⟩ : Sl), .string ByteArray.empty, sv (⟨some (b6, 0), (imin (imax x1 0) 4096).toNat, (imin (imax x1 0) 4096).toNat⟩ : Sl), sv Sl.nil], 75, false, 7⟩ : AO) (True) ∧ True) (by rintro _ _ _ _ _ _ ⟨b2, n3, b6, n7, b10, n11, e9, mb2, mb6, mb10, _⟩ hle hT; exact ⟨b2, n3, b6, n7, b10, n11, e9, mb2.mono hle hT, mb6.mono hle hT, mb10.mono hle hT, trivial⟩)) rfl (wantN rfl) (fun _ => by kernel_rfl) ⟨b2, n3, b6, n7, b10, n11, rfl, ⟨nb2, kb2, tb2, ob2⟩, ⟨nb6, kb6, tb6, ob6⟩, ⟨nb10, kb10, tb10, ob10⟩, trivial⟩
  · intro fr' T' H' hle hs hA
    obtain ⟨b2, n3, b6, n7, b10, n11, a2, ⟨nb2, kb2, tb2, ob2⟩, ⟨nb6, kb6, tb6, ob6⟩, ⟨nb10, kb10, tb10, ob10⟩, _⟩ := hA 9 (Nat.le_of_ble_eq_true rfl)
    obtain ⟨g', hg'⟩ : ∃ g' : Fr, fr' = g'.upds [(2, pv (some (b10, 0)))] := ⟨_, Fr.upds_self _ _ ⟨a2, trivial⟩⟩
    subst hg'
    refine SOps.forget (SH.upd (SH.upd (SH.upd H b2 (⟨(Builtin.zeroCells (Value.cells (.string ByteArray.empty : Value)) (imin (imax x1 0) 4096).toNat).toList, 9, false, (imin (imax x1 0) 4096).toNat * 1⟩ : AO)) b6 (⟨(Builtin.zeroCells (Value.cells (.string ByteArray.empty : Value)) (imin (imax x1 0) 4096).toNat).toList, 9, false, (imin (imax x1 0) 4096).toNat * 1⟩ : AO)) b10 (⟨[.int .i64 (-1), .bool false, .string ByteArray.empty, sv (⟨some (b2, 0), (imin (imax x1 0) 4096).toNat, (imin (imax x1 0) 4096).toNat⟩ : Sl), .string ByteArray.empty, sv (⟨some (b6, 0), (imin (imax x1 0) 4096).toNat, (imin (imax x1 0) 4096).toNat⟩ : Sl), sv Sl.nil], 75, false, 7⟩ : AO)) (SH.le.upd_in (SH.le.upd_in (SH.le.upd_in hle kb2) kb6) kb10) ?_
    replace h := h b2 nb2
    replace h := h b6 nb6 (by rintro rfl; rw [tb2] at tb6; cases tb6)
    replace h := h b10 nb10 (by rintro rfl; rw [tb2] at tb10; cases tb10) (by rintro rfl; rw [tb6] at tb10; cases tb10)
    clear hle hs hA
    refine SOps.nil ?_
    obtain ⟨Hr, hr, h⟩ := h
    exact SW.ret (retQ.mk (pv (some (b10, 0))) (res1 rfl rfl) hr ⟨some (b10, 0), rfl, h⟩)

/-! ### (*lading/disk.Disk).bars: function 40 -/
def disk_Disk_bars.wp (F : Nat) (p1 : Option (Nat × Nat)) (H : SH) (K : Option EV → SH → Prop) : Prop :=
  (p1 = none →
    ∃ Hr, SH.le Hr H ∧ K (some (EV.no 1)) Hr
  ) ∧ (∀ b2 o3, p1 = some (b2, o3) →
    ∃ (q4 : Bool),
    SH.has H (b2, (o3 + 1)) (.bool q4) ∧
    (q4 = true →
      ∃ Hr, SH.le Hr H ∧ K (some (EV.no 8)) Hr
    ) ∧ (¬ (q4 = true) →
      ∃ Hr, SH.le Hr H ∧ K none Hr
    )
  )
set_option maxHeartbeats 8000000 in
theorem disk_Disk_bars.sound (F : Nat) (p1 : Option (Nat × Nat)) (H : SH) (K : Option EV → SH → Prop) (h : disk_Disk_bars.wp F p1 H K) : SCalls Tryd.prog 40 #[pv p1] H (fun v H' => ∃ (e8 : Option EV), v = errV e8 ∧ K e8 H') := by
  unfold disk_Disk_bars.wp at h
  refine SCalls.body Tryd.func40 rfl (Nat.le_of_ble_eq_true rfl) ?_
  refine SW.seq ?_
  refine SW.region ?_
  refine SOps.val (v := errV none) rfl (wantN rfl) (fun _ => by kernel_rfl) ?_
  refine SOps.nil ?_
  refine SW.seq ?_
  refine SW.block ?_
  refine SW.seq ?_
  refine SW.region ?_
  refine SOps.val (v := pv p1) rfl (wantN rfl) (fun _ => by kernel_rfl) ?_
  rcases p1 with _ | ⟨b2, o3⟩
  · replace h := h.1 rfl
    refine SOps.val (v := .bool true) rfl (wantN rfl) (fun _ => by kernel_rfl) ?_
    refine SOps.val (v := .bool true) rfl (wantN rfl) (fun _ => by kernel_rfl) ?_
    refine SOps.nil ?_
    refine SW.cond_t (t := true) rfl rfl ?_
    refine SW.seq ?_
    refine SW.region ?_
    refine SOps.val (v := errV (some (EV.no 1))) rfl (wantN rfl) (fun _ => by kernel_rfl) ?_
    refine SOps.val (v := errV (some (EV.no 1))) rfl (wantN rfl) (fun _ => by kernel_rfl) ?_
    refine SOps.nil ?_
    obtain ⟨Hr, hr, h⟩ := h
    exact SW.ret (retQ.mk (errV (some (EV.no 1))) (res1 rfl rfl) hr ⟨some (EV.no 1), rfl, h⟩)
  · replace h := h.2 b2 o3 rfl
    refine SOps.val (v := .bool false) rfl (wantN rfl) (fun _ => by kernel_rfl) ?_
    refine SOps.val (v := .bool false) rfl (wantN rfl) (fun _ => by kernel_rfl) ?_
    refine SOps.nil ?_
    refine SW.cond_f (t := false) rfl rfl ?_
    refine SW.seq ?_
    refine SW.region ?_
    refine SOps.val (v := pv (some (b2, o3))) rfl (wantN rfl) (fun _ => by kernel_rfl) ?_
    refine SOps.val (v := pv (some (b2, o3))) rfl (wantN rfl) (fun _ => by kernel_rfl) ?_
    refine SOps.val (v := pv (some (b2, o3))) rfl (wantN rfl) (fun _ => by kernel_rfl) ?_
    refine SOps.val (v := pv (some (b2, (o3 + 1)))) rfl (wantN rfl) (fun _ => by kernel_rfl) ?_
    obtain ⟨q4, c5, h⟩ := h
    refine SOps.rd (v := .bool q4) rfl (wantN rfl) (fun w hw => ev_load1 rfl (fun _ => by kernel_rfl) (p := (b2, (o3 + 1))) rfl c5 w hw) ?_
    refine SOps.val (v := .bool q4) rfl (wantN rfl) (fun _ => by kernel_rfl) ?_
    refine SOps.nil ?_
    by_cases c6 : q4 = true
    · replace h := h.1 c6
      have dc6 : q4 = true := c6
      refine SW.cond_t (t := q4) rfl dc6 ?_
      refine SW.seq ?_
      refine SW.region ?_
      refine SOps.val (v := errV (some (EV.no 8))) rfl (wantN rfl) (fun _ => by kernel_rfl) ?_
      refine SOps.val (v := errV (some (EV.no 8))) rfl (wantN rfl) (fun _ => by kernel_rfl) ?_
      refine SOps.nil ?_
      obtain ⟨Hr, hr, h⟩ := h
      exact SW.ret (retQ.mk (errV (some (EV.no 8))) (res1 rfl rfl) hr ⟨some (EV.no 8), rfl, h⟩)
    · replace h := h.2 c6
      have dc6 : q4 = false := (Bool.eq_false_iff.mpr c6)
      refine SW.cond_f (t := q4) rfl dc6 ?_
      refine SW.skip ?_
      refine SW.seq ?_
      refine SW.region ?_
      refine SOps.val (v := errV none) rfl (wantN rfl) (fun _ => by kernel_rfl) ?_
      refine SOps.nil ?_
      obtain ⟨Hr, hr, h⟩ := h
      exact SW.ret (retQ.mk (errV none) (res1 rfl rfl) hr ⟨none, rfl, h⟩)

/-! ### (*lading/disk.fuse).burn: function 41 -/
def disk_fuse_burn.j1 (F : Nat) (K : Option EV → SH → Prop) (H : SH) : Prop :=
  ∃ Hr, SH.le Hr H ∧ K none Hr
def disk_fuse_burn.wp (F : Nat) (p1 : Option (Nat × Nat)) (H : SH) (K : Option EV → SH → Prop) : Prop :=
  (p1 = none →
    False
  ) ∧ (∀ b2 o3, p1 = some (b2, o3) →
    ∃ (x4 : Int),
    SH.has H (b2, o3) (.int .i64 x4) ∧
    (x4 = 0 →
      SH.wrs H (b2, o3) 2 ∧
      ∃ Hr, SH.le Hr (SH.setl H (b2, o3) [.int .i64 (-1), .bool true]) ∧ K (some (EV.no 8)) Hr
    ) ∧ (¬ (x4 = 0) →
      ∃ (x8 : Int),
      SH.has H (b2, o3) (.int .i64 x8) ∧
      (x8 > 0 →
        ∃ (x11 : Int),
        SH.has H (b2, o3) (.int .i64 x11) ∧
        SH.wrs H (b2, o3) 1 ∧
        disk_fuse_burn.j1 F K  (SH.setl H (b2, o3) [.int .i64 (w64 (x11 - 1))])
      ) ∧ (¬ (x8 > 0) →
        disk_fuse_burn.j1 F K  H
      )
    )
  )
set_option maxHeartbeats 8000000 in
theorem disk_fuse_burn.sound (F : Nat) (p1 : Option (Nat × Nat)) (H : SH) (K : Option EV → SH → Prop) (h : disk_fuse_burn.wp F p1 H K) : SCalls Tryd.prog 41 #[pv p1] H (fun v H' => ∃ (e16 : Option EV), v = errV e16 ∧ K e16 H') := by
  unfold disk_fuse_burn.wp at h
  refine SCalls.body Tryd.func41 rfl (Nat.le_of_ble_eq_true rfl) ?_
  refine SW.seq ?_
  refine SW.region ?_
  refine SOps.val (v := errV none) rfl (wantN rfl) (fun _ => by kernel_rfl) ?_
  refine SOps.nil ?_
  refine SW.seq ?_
  refine SW.blockJ (fun fr H => ∃ (g : Fr), fr = g.upds [] ∧ disk_fuse_burn.j1 F K H) ?_ ?_
  · clear h
    rintro fr H ⟨g, rfl, h⟩
    unfold disk_fuse_burn.j1 at h
    refine SW.seq ?_
    refine SW.region ?_
    refine SOps.val (v := errV none) rfl (wantN rfl) (fun _ => by kernel_rfl) ?_
    refine SOps.nil ?_
    obtain ⟨Hr, hr, h⟩ := h
    exact SW.ret (retQ.mk (errV none) (res1 rfl rfl) hr ⟨none, rfl, h⟩)
  · skip
    refine SW.seq ?_
    refine SW.region ?_
    refine SOps.val (v := pv p1) rfl (wantN rfl) (fun _ => by kernel_rfl) ?_
    rcases p1 with _ | ⟨b2, o3⟩
    · replace h := h.1 rfl
      exact h.elim
    · replace h := h.2 b2 o3 rfl
      refine SOps.val (v := pv (some (b2, o3))) rfl (wantN rfl) (fun _ => by kernel_rfl) ?_
      refine SOps.val (v := pv (some (b2, o3))) rfl (wantN rfl) (fun _ => by kernel_rfl) ?_
      obtain ⟨x4, c5, h⟩ := h
      refine SOps.rd (v := .int .i64 x4) rfl (wantN rfl) (fun w hw => ev_load1 rfl (fun _ => by kernel_rfl) (p := (b2, o3)) rfl c5 w hw) ?_
      refine SOps.val (v := .bool (x4 == 0)) rfl (wantN rfl) (fun _ => by kernel_rfl) ?_
      refine SOps.val (v := .bool (x4 == 0)) rfl (wantN rfl) (fun _ => by kernel_rfl) ?_
      refine SOps.nil ?_
      by_cases c6 : x4 = 0
      · replace h := h.1 c6
        have dc6 : (x4 == 0) = true := (beq_iff_eq.mpr c6)
        refine SW.cond_t (t := (x4 == 0)) rfl dc6 ?_
        refine SW.seq ?_
        refine SW.region ?_
        refine SOps.val (v := pv (some (b2, o3))) rfl (wantN rfl) (fun _ => by kernel_rfl) ?_
        refine SOps.val (v := .agg #[.int .i64 (-1), .bool true]) rfl (wantN rfl) (fun _ => by kernel_rfl) ?_
        refine SOps.val (v := pv (some (b2, o3))) rfl (wantN rfl) (fun _ => by kernel_rfl) ?_
        obtain ⟨c7, h⟩ := h
        refine SOps.storeL (p := (b2, o3)) (v := .agg #[.int .i64 (-1), .bool true]) (cs := [.int .i64 (-1), .bool true]) rfl rfl (wantN rfl) (size := 2) (by kernel_rfl) rfl rfl rfl rfl (by simp [Value.oneCell', errV_one, pv, sv]) c7 ?_
        refine SOps.nil ?_
        refine SW.seq ?_
        refine SW.region ?_
        refine SOps.val (v := errV (some (EV.no 8))) rfl (wantN rfl) (fun _ => by kernel_rfl) ?_
        refine SOps.val (v := errV (some (EV.no 8))) rfl (wantN rfl) (fun _ => by kernel_rfl) ?_
        refine SOps.nil ?_
        obtain ⟨Hr, hr, h⟩ := h
        exact SW.ret (retQ.mk (errV (some (EV.no 8))) (res1 rfl rfl) hr ⟨some (EV.no 8), rfl, h⟩)
      · replace h := h.2 c6
        have dc6 : (x4 == 0) = false := (beq_eq_false_iff_ne.mpr c6)
        refine SW.cond_f (t := (x4 == 0)) rfl dc6 ?_
        refine SW.seq ?_
        refine SW.region ?_
        refine SOps.val (v := pv (some (b2, o3))) rfl (wantN rfl) (fun _ => by kernel_rfl) ?_
        refine SOps.val (v := pv (some (b2, o3))) rfl (wantN rfl) (fun _ => by kernel_rfl) ?_
        refine SOps.val (v := pv (some (b2, o3))) rfl (wantN rfl) (fun _ => by kernel_rfl) ?_
        obtain ⟨x8, c9, h⟩ := h
        refine SOps.rd (v := .int .i64 x8) rfl (wantN rfl) (fun w hw => ev_load1 rfl (fun _ => by kernel_rfl) (p := (b2, o3)) rfl c9 w hw) ?_
        refine SOps.val (v := .bool (decide (x8 > 0))) rfl (wantN rfl) (fun _ => by kernel_rfl) ?_
        refine SOps.val (v := .bool (decide (x8 > 0))) rfl (wantN rfl) (fun _ => by kernel_rfl) ?_
        refine SOps.nil ?_
        by_cases c10 : x8 > 0
        · replace h := h.1 c10
          have dc10 : (decide (x8 > 0)) = true := (decide_eq_true c10)
          refine SW.cond_t (t := decide (x8 > 0)) rfl dc10 ?_
          refine SW.region ?_
          refine SOps.val (v := pv (some (b2, o3))) rfl (wantN rfl) (fun _ => by kernel_rfl) ?_
          refine SOps.val (v := pv (some (b2, o3))) rfl (wantN rfl) (fun _ => by kernel_rfl) ?_
          refine SOps.val (v := pv (some (b2, o3))) rfl (wantN rfl) (fun _ => by kernel_rfl) ?_
          obtain ⟨x11, c12, h⟩ := h
          refine SOps.rd (v := .int .i64 x11) rfl (wantN rfl) (fun w hw => ev_load1 rfl (fun _ => by kernel_rfl) (p := (b2, o3)) rfl c12 w hw) ?_
          refine SOps.val (v := .int .i64 (w64 (x11 - 1))) rfl (wantN rfl) (fun _ => by kernel_rfl) ?_
          refine SOps.val (v := pv (some (b2, o3))) rfl (wantN rfl) (fun _ => by kernel_rfl) ?_
          refine SOps.val (v := pv (some (b2, o3))) rfl (wantN rfl) (fun _ => by kernel_rfl) ?_
          obtain ⟨c13, h⟩ := h
          refine SOps.storeL (p := (b2, o3)) (v := .int .i64 (w64 (x11 - 1))) (cs := [.int .i64 (w64 (x11 - 1))]) rfl rfl (wantN rfl) (size := 1) (by kernel_rfl) rfl rfl rfl rfl (by simp [Value.oneCell', errV_one, pv, sv]) c13 ?_
          refine SOps.nil ?_
          exact ⟨_, (Fr.upds_self _ [] trivial), h⟩
        · replace h := h.2 c10
          have dc10 : (decide (x8 > 0)) = false := (decide_eq_false c10)
          refine SW.cond_f (t := decide (x8 > 0)) rfl dc10 ?_
          refine SW.skip ?_
          exact ⟨_, (Fr.upds_self _ [] trivial), h⟩

/-! ### (lading/disk.content).copied: function 48 -/
def disk_content_copied.wp (F : Nat) (s1 : ByteArray) (l2 : Sl) (H : SH) (K : ByteArray → Sl → SH → Prop) : Prop :=
  ∀ b3, H b3 = none →
  ∀ b5, (SH.upd H b3 ⟨[.string s1, sv l2], 72, false, 2⟩) b5 = none →
  ∃ (s7 : ByteArray),
  SH.has (SH.upd (SH.upd H b3 ⟨[.string s1, sv l2], 72, false, 2⟩) b5 ⟨[.string ByteArray.empty, sv Sl.nil], 72, false, 2⟩) (b3, 0) (.string s7) ∧
  ∃ (l9 : Sl),
  SH.has (SH.upd (SH.upd H b3 ⟨[.string s1, sv l2], 72, false, 2⟩) b5 ⟨[.string ByteArray.empty, sv Sl.nil], 72, false, 2⟩) (b3, 1) (sv l9) ∧
  ∃ R13 : Sl → SH → Prop, (∀ l11 H1 H2, R13 l11 H1 → SH.le H1 H2 → R13 l11 H2) ∧
  ( slices_Clone_string_string.wp F l9 (SH.upd (SH.upd H b3 ⟨[.string s1, sv l2], 72, false, 2⟩) b5 ⟨[.string ByteArray.empty, sv Sl.nil], 72, false, 2⟩) (fun l11 H' => SH.le (SH.upd (SH.upd H b3 ⟨[.string s1, sv l2], 72, false, 2⟩) b5 ⟨[.string ByteArray.empty, sv Sl.nil], 72, false, 2⟩) H' ∧ R13 l11 H')) ∧
  ∀ (l11 : Sl) (H15 : SH), SH.le (SH.upd (SH.upd H b3 ⟨[.string s1, sv l2], 72, false, 2⟩) b5 ⟨[.string ByteArray.empty, sv Sl.nil], 72, false, 2⟩) H15 → R13 l11 H15 → 
  SH.wrs H15 (b5, 0) 2 ∧
  ∃ (s17 : ByteArray) (l18 : Sl),
  SH.row (SH.setl H15 (b5, 0) [.string s7, sv l11]) (some (b5, 0)) [.string s17, sv l18] ∧
  ∃ Hr, SH.le Hr (SH.setl H15 (b5, 0) [.string s7, sv l11]) ∧ K s17 l18 Hr
set_option maxHeartbeats 8000000 in
theorem disk_content_copied.sound (F : Nat) (s1 : ByteArray) (l2 : Sl) (H : SH) (K : ByteArray → Sl → SH → Prop) (h : disk_content_copied.wp F s1 l2 H K) : SCalls Tryd.prog 48 #[.agg #[.string s1, sv l2]] H (fun v H' => ∃ (s22 : ByteArray) (l23 : Sl), v = .agg #[.string s22, sv l23] ∧ K s22 l23 H') := by
  unfold disk_content_copied.wp at h
  refine SCalls.body Tryd.func48 rfl (Nat.le_of_ble_eq_true rfl) ?_
  refine SW.seq ?_
  refine SW.region ?_
  refine SOps.box rfl rfl (wantN rfl) (v := .agg #[.string s1, sv l2]) rfl (fun b3 c4 => ?_)
  replace h := h b3 c4
  refine SOps.alloc rfl rfl (wantN rfl) (z := .agg #[.string ByteArray.empty, sv Sl.nil]) (by kernel_rfl) (fun b5 c6 => ?_)
  replace h := h b5 c6
  refine SOps.nil ?_
  refine SW.seq ?_
  obtain ⟨s7, c8, h⟩ := h
  obtain ⟨l9, c10, h⟩ := h
  obtain ⟨R13, m14, c12, h⟩ := h
  refine SW.drawA [.val (pv (some (b3, 0))), .val (.string s7), .val (pv (some (b3, 1))), .val (sv l9), .rel (fun H9 v9 T9 H8 => ∃ (l11 : Sl), v9 = sv l11 ∧ R13 l11 H8) (by rintro _ _ _ _ _ _ ⟨l11, e9, r9⟩ hle hT; exact ⟨l11, e9, m14 _ _ _ r9 hle⟩), .rel (fun H9 v9 T9 H8 => ∃ (l11 : Sl), v9 = .agg #[.string s7, sv l11] ∧ R13 l11 H8) (by rintro _ _ _ _ _ _ ⟨l11, e9, r9⟩ hle hT; exact ⟨l11, e9, m14 _ _ _ r9 hle⟩)] (by kernel_rfl) (by kernel_rfl) (And.intro ?_ (And.intro ?_ (And.intro ?_ (And.intro ?_ (And.intro ?_ (And.intro ?_ (trivial))))))) ?_
  · clear h
    intro fr' T' H' hle hs hA
    have a1 : fr' 1 = pv (some (b3, 0)) := hs 1 (by kernel_rfl)
    obtain ⟨g', hg'⟩ : ∃ g' : Fr, fr' = g'.upds [(1, pv (some (b3, 0)))] := ⟨_, Fr.upds_self _ _ ⟨a1, trivial⟩⟩
    subst hg'
    exact SA.val (v := pv (some (b3, 0))) rfl (wantN rfl) (fun _ => by kernel_rfl)
  · clear h
    intro fr' T' H' hle hs hA
    have a3 : fr' 3 = pv (some (b3, 0)) := hA 0 (by kernel_rfl)
    obtain ⟨g', hg'⟩ : ∃ g' : Fr, fr' = g'.upds [(3, pv (some (b3, 0)))] := ⟨_, Fr.upds_self _ _ ⟨a3, trivial⟩⟩
    subst hg'
    exact SA.rd hle (v := .string s7) rfl (wantN rfl) (fun w hw => ev_load1 rfl (fun _ => by kernel_rfl) (p := (b3, 0)) rfl c8 w hw)
  · clear h
    intro fr' T' H' hle hs hA
    have a1 : fr' 1 = pv (some (b3, 0)) := hs 1 (by kernel_rfl)
    obtain ⟨g', hg'⟩ : ∃ g' : Fr, fr' = g'.upds [(1, pv (some (b3, 0)))] := ⟨_, Fr.upds_self _ _ ⟨a1, trivial⟩⟩
    subst hg'
    exact SA.val (v := pv (some (b3, 1))) rfl (wantN rfl) (fun _ => by kernel_rfl)
  · clear h
    intro fr' T' H' hle hs hA
    have a5 : fr' 5 = pv (some (b3, 1)) := hA 2 (by kernel_rfl)
    obtain ⟨g', hg'⟩ : ∃ g' : Fr, fr' = g'.upds [(5, pv (some (b3, 1)))] := ⟨_, Fr.upds_self _ _ ⟨a5, trivial⟩⟩
    subst hg'
    exact SA.rd hle (v := sv l9) rfl (wantN rfl) (fun w hw => ev_load1 rfl (fun _ => by kernel_rfl) (p := (b3, 1)) rfl c10 w hw)
  · clear h
    intro fr' T' H' hle hs hA
    have a6 : fr' 6 = sv l9 := hA 3 (by kernel_rfl)
    obtain ⟨g', hg'⟩ : ∃ g' : Fr, fr' = g'.upds [(6, sv l9)] := ⟨_, Fr.upds_self _ _ ⟨a6, trivial⟩⟩
    subst hg'
    exact SA.enterR (Hc := SH.upd (SH.upd H b3 ⟨[.string s1, sv l2], 72, false, 2⟩) b5 ⟨[.string ByteArray.empty, sv Sl.nil], 72, false, 2⟩) (Rr := fun v2 H2 => ∃ (l11 : Sl), v2 = sv l11 ∧ R13 l11 H2) (p := fun H9 v9 T9 H8 => ∃ (l11 : Sl), v9 = sv l11 ∧ R13 l11 H8) (mono := (by rintro _ _ _ _ _ _ ⟨l11, e9, r9⟩ hle hT; exact ⟨l11, e9, m14 _ _ _ r9 hle⟩)) hle rfl (wantN rfl) (fun _ => by kernel_rfl) ((slices_Clone_string_string.sound F l9 (SH.upd (SH.upd H b3 ⟨[.string s1, sv l2], 72, false, 2⟩) b5 ⟨[.string ByteArray.empty, sv Sl.nil], 72, false, 2⟩) _ c12).mono (by rintro v H' ⟨l11, rfl, h1, h2⟩; exact ⟨h1, l11, rfl, h2⟩)) (by rintro u H2 H3 T3 ⟨l11, rfl, r⟩ h2; exact ⟨l11, rfl, m14 _ _ _ r h2⟩)
  · clear h
    intro fr' T' H' hle hs hA
    have a4 : fr' 4 = (.string s7 : Value) := hA 1 (by kernel_rfl)
    obtain ⟨l11, a7, rR13⟩ := hA 4 (by kernel_rfl)
    obtain ⟨g', hg'⟩ : ∃ g' : Fr, fr' = g'.upds [(4, (.string s7 : Value)), (7, sv l11)] := ⟨_, Fr.upds_self _ _ ⟨a4, a7, trivial⟩⟩
    subst hg'
    exact SA.same (v := .agg #[.string s7, sv l11]) (a := .rel (fun H9 v9 T9 H8 => ∃ (l11 : Sl), v9 = .agg #[.string s7, sv l11] ∧ R13 l11 H8) (by rintro _ _ _ _ _ _ ⟨l11, e9, r9⟩ hle hT; exact ⟨l11, e9, m14 _ _ _ r9 hle⟩)) rfl (wantN rfl) (fun _ => by kernel_rfl) ⟨l11, rfl, rR13⟩
  · intro fr' T' H' hle hs hA
    have a2 : fr' 2 = pv (some (b5, 0)) := hs 2 (by kernel_rfl)
    obtain ⟨l11, a8, rR13⟩ := hA 5 (Nat.le_of_ble_eq_true rfl)
    obtain ⟨g', hg'⟩ : ∃ g' : Fr, fr' = g'.upds [(2, pv (some (b5, 0))), (8, (.agg #[.string s7, sv l11] : Value))] := ⟨_, Fr.upds_self _ _ ⟨a2, a8, trivial⟩⟩
    subst hg'
    replace h := h l11 H' hle rR13
    generalize H' = H15 at h ⊢
    clear hle hs hA
    obtain ⟨c16, h⟩ := h
    refine SOps.storeL (p := (b5, 0)) (v := .agg #[.string s7, sv l11]) (cs := [.string s7, sv l11]) rfl rfl (wantN rfl) (size := 2) (by kernel_rfl) rfl rfl rfl rfl (by simp [Value.oneCell', errV_one, pv, sv]) c16 ?_
    refine SOps.nil ?_
    obtain ⟨s17, l18, c19, Hr, hr, h⟩ := h
    exact SW.ret (retQ.mkM (.agg #[.string s17, sv l18]) (resCN (size := 2) (p := (b5, 0)) (T := 72) rfl rfl (fun _ => by kernel_rfl) (by kernel_rfl) rfl c19) hr ⟨s17, l18, rfl, h⟩)

/-! ### (*lading/disk.Disk).settle: function 42 -/
def disk_Disk_settle.wp (F : Nat) (p1 : Option (Nat × Nat)) (H : SH) (K : SH → Prop) : Prop :=
  (p1 = none →
    False
  ) ∧ (∀ b2 o3, p1 = some (b2, o3) →
    ∃ (s4 : ByteArray) (l5 : Sl),
    SH.row H (some (b2, (o3 + 2))) [.string s4, sv l5] ∧
    disk_content_copied.wp F s4 l5 H (fun s7 l8 H9 =>
      SH.wrs H9 (b2, (o3 + 4)) 2 ∧
      SH.wrs (SH.setl H9 (b2, (o3 + 4)) [.string s7, sv l8]) (b2, (o3 + 6)) 1 ∧
      ∃ Hr, SH.le Hr (SH.setl (SH.setl H9 (b2, (o3 + 4)) [.string s7, sv l8]) (b2, (o3 + 6)) [sv Sl.nil]) ∧ K Hr
    )
  )
set_option maxHeartbeats 8000000 in
theorem disk_Disk_settle.sound (F : Nat) (p1 : Option (Nat × Nat)) (H : SH) (K : SH → Prop) (h : disk_Disk_settle.wp F p1 H K) : SCalls Tryd.prog 42 #[pv p1] H (fun v H' => v = .tuple #[] ∧ K H') := by
  unfold disk_Disk_settle.wp at h
  refine SCalls.body Tryd.func42 rfl (Nat.le_of_ble_eq_true rfl) ?_
  refine SW.region ?_
  refine SOps.val (v := pv p1) rfl (wantN rfl) (fun _ => by kernel_rfl) ?_
  refine SOps.val (v := pv p1) rfl (wantN rfl) (fun _ => by kernel_rfl) ?_
  refine SOps.val (v := pv p1) rfl (wantN rfl) (fun _ => by kernel_rfl) ?_
  rcases p1 with _ | ⟨b2, o3⟩
  · replace h := h.1 rfl
    exact h.elim
  · replace h := h.2 b2 o3 rfl
    refine SOps.val (v := pv (some (b2, o3))) rfl (wantN rfl) (fun _ => by kernel_rfl) ?_
    refine SOps.val (v := pv (some (b2, (o3 + 2)))) rfl (wantN rfl) (fun _ => by kernel_rfl) ?_
    obtain ⟨s4, l5, c6, h⟩ := h
    refine SOps.rd (v := .agg #[.string s4, sv l5]) rfl (wantN rfl) (fun w hw => ev_loadN rfl (fun _ => by kernel_rfl) (size := 2) (by kernel_rfl) (p := (b2, (o3 + 2))) rfl rfl c6 w hw) ?_
    refine SOps.enter rfl (wantN rfl) (fun _ => by kernel_rfl) (disk_content_copied.sound F s4 l5 H _ h) ?_
    clear h
    rintro v H9 ⟨s7, l8, rfl, h⟩
    refine SOps.val (v := pv (some (b2, o3))) rfl (wantN rfl) (fun _ => by kernel_rfl) ?_
    refine SOps.val (v := pv (some (b2, (o3 + 4)))) rfl (wantN rfl) (fun _ => by kernel_rfl) ?_
    obtain ⟨c10, h⟩ := h
    refine SOps.storeL (p := (b2, (o3 + 4))) (v := .agg #[.string s7, sv l8]) (cs := [.string s7, sv l8]) rfl rfl (wantN rfl) (size := 2) (by kernel_rfl) rfl rfl rfl rfl (by simp [Value.oneCell', errV_one, pv, sv]) c10 ?_
    refine SOps.val (v := pv (some (b2, o3))) rfl (wantN rfl) (fun _ => by kernel_rfl) ?_
    refine SOps.val (v := pv (some (b2, (o3 + 6)))) rfl (wantN rfl) (fun _ => by kernel_rfl) ?_
    obtain ⟨c11, h⟩ := h
    refine SOps.storeL (p := (b2, (o3 + 6))) (v := sv Sl.nil) (cs := [sv Sl.nil]) rfl rfl (wantN rfl) (size := 1) (by kernel_rfl) rfl rfl rfl rfl (by simp [Value.oneCell', errV_one, pv, sv]) c11 ?_
    refine SOps.nil ?_
    obtain ⟨Hr, hr, h⟩ := h
    exact retQ.mkN (.tuple #[]) (res0 rfl) hr ⟨rfl, h⟩

/-! ### (*lading/disk.Disk).Sync: function 12 -/
def disk_Disk_Sync.wp (F : Nat) (p1 : Option (Nat × Nat)) (H : SH) (K : Option EV → SH → Prop) : Prop :=
  disk_Disk_bars.wp F p1 H (fun e2 H3 =>
    (e2 = none →
      (p1 = none →
        False
      ) ∧ (∀ b5 o6, p1 = some (b5, o6) →
        disk_fuse_burn.wp F (some (b5, o6)) H3 (fun e7 H8 =>
          (e7 = none →
            disk_Disk_settle.wp F (some (b5, o6)) H8 (fun H10 =>
              ∃ Hr, SH.le Hr H10 ∧ K none Hr
            )
          ) ∧ (∀ v9, e7 = some v9 →
            ∃ Hr, SH.le Hr H8 ∧ K (some v9) Hr
          )
        )
      )
    ) ∧ (∀ v4, e2 = some v4 →
      ∃ Hr, SH.le Hr H3 ∧ K (some v4) Hr
    )
  )
set_option maxHeartbeats 8000000 in
theorem disk_Disk_Sync.sound (F : Nat) (p1 : Option (Nat × Nat)) (H : SH) (K : Option EV → SH → Prop) (h : disk_Disk_Sync.wp F p1 H K) : SCalls Tryd.prog 12 #[pv p1] H (fun v H' => ∃ (e12 : Option EV), v = errV e12 ∧ K e12 H') := by
  unfold disk_Disk_Sync.wp at h
  refine SCalls.body Tryd.func12 rfl (Nat.le_of_ble_eq_true rfl) ?_
  refine SW.seq ?_
  refine SW.region ?_
  refine SOps.val (v := errV none) rfl (wantN rfl) (fun _ => by kernel_rfl) ?_
  refine SOps.nil ?_
  refine SW.seq ?_
  refine SW.seq ?_
  refine SW.region ?_
  refine SOps.val (v := pv p1) rfl (wantN rfl) (fun _ => by kernel_rfl) ?_
  refine SOps.enter rfl (wantN rfl) (fun _ => by kernel_rfl) (disk_Disk_bars.sound F p1 H _ h) ?_
  clear h
  rintro v H3 ⟨e2, rfl, h⟩
  refine SOps.val (v := errV e2) rfl (wantN rfl) (fun _ => by kernel_rfl) ?_
  refine SOps.nil ?_
  refine SW.seq ?_
  refine SW.region ?_
  refine SOps.val (v := errV e2) rfl (wantN rfl) (fun _ => by kernel_rfl) ?_
  rcases e2 with _ | v4
  · replace h := h.1 rfl
    refine SOps.val (v := .bool false) rfl (wantN rfl) (fun w => ev_errNe (e := none) rfl Tryd.underlying28 rfl rfl w) ?_
    refine SOps.nil ?_
    refine SW.cond_f (t := false) rfl rfl ?_
    refine SW.skip ?_
    refine SW.seq ?_
    refine SW.seq ?_
    refine SW.region ?_
    refine SOps.val (v := pv p1) rfl (wantN rfl) (fun _ => by kernel_rfl) ?_
    rcases p1 with _ | ⟨b5, o6⟩
    · replace h := h.1 rfl
      exact h.elim
    · replace h := h.2 b5 o6 rfl
      refine SOps.val (v := pv (some (b5, o6))) rfl (wantN rfl) (fun _ => by kernel_rfl) ?_
      refine SOps.val (v := pv (some (b5, o6))) rfl (wantN rfl) (fun _ => by kernel_rfl) ?_
      refine SOps.enter rfl (wantN rfl) (fun _ => by kernel_rfl) (disk_fuse_burn.sound F (some (b5, o6)) H3 _ h) ?_
      clear h
      rintro v H8 ⟨e7, rfl, h⟩
      refine SOps.val (v := errV e7) rfl (wantN rfl) (fun _ => by kernel_rfl) ?_
      refine SOps.nil ?_
      refine SW.seq ?_
      refine SW.region ?_
      refine SOps.val (v := errV e7) rfl (wantN rfl) (fun _ => by kernel_rfl) ?_
      rcases e7 with _ | v9
      · replace h := h.1 rfl
        refine SOps.val (v := .bool false) rfl (wantN rfl) (fun w => ev_errNe (e := none) rfl Tryd.underlying28 rfl rfl w) ?_
        refine SOps.nil ?_
        refine SW.cond_f (t := false) rfl rfl ?_
        refine SW.skip ?_
        refine SW.seq ?_
        refine SW.region ?_
        refine SOps.val (v := pv (some (b5, o6))) rfl (wantN rfl) (fun _ => by kernel_rfl) ?_
        refine SOps.enter rfl (wantN rfl) (fun _ => by kernel_rfl) (disk_Disk_settle.sound F (some (b5, o6)) H8 _ h) ?_
        clear h
        rintro v H10 ⟨rfl, h⟩
        refine SOps.nil ?_
        refine SW.seq ?_
        refine SW.region ?_
        refine SOps.val (v := errV none) rfl (wantN rfl) (fun _ => by kernel_rfl) ?_
        refine SOps.nil ?_
        obtain ⟨Hr, hr, h⟩ := h
        exact SW.ret (retQ.mk (errV none) (res1 rfl rfl) hr ⟨none, rfl, h⟩)
      · replace h := h.2 v9 rfl
        refine SOps.val (v := .bool true) rfl (wantN rfl) (fun w => ev_errNe (e := some v9) rfl Tryd.underlying28 rfl rfl w) ?_
        refine SOps.nil ?_
        refine SW.cond_t (t := true) rfl rfl ?_
        refine SW.seq ?_
        refine SW.region ?_
        refine SOps.val (v := errV (some v9)) rfl (wantN rfl) (fun _ => by kernel_rfl) ?_
        refine SOps.val (v := errV (some v9)) rfl (wantN rfl) (fun _ => by kernel_rfl) ?_
        refine SOps.nil ?_
        obtain ⟨Hr, hr, h⟩ := h
        exact SW.ret (retQ.mk (errV (some v9)) (res1 rfl rfl) hr ⟨some v9, rfl, h⟩)
  · replace h := h.2 v4 rfl
    refine SOps.val (v := .bool true) rfl (wantN rfl) (fun w => ev_errNe (e := some v4) rfl Tryd.underlying28 rfl rfl w) ?_
    refine SOps.nil ?_
    refine SW.cond_t (t := true) rfl rfl ?_
    refine SW.seq ?_
    refine SW.region ?_
    refine SOps.val (v := errV (some v4)) rfl (wantN rfl) (fun _ => by kernel_rfl) ?_
    refine SOps.val (v := errV (some v4)) rfl (wantN rfl) (fun _ => by kernel_rfl) ?_
    refine SOps.nil ?_
    obtain ⟨Hr, hr, h⟩ := h
    exact SW.ret (retQ.mk (errV (some v4)) (res1 rfl rfl) hr ⟨some v4, rfl, h⟩)

/-! ### (*lading/disk.content).put: function 47 -/
def disk_content_put.wp (F : Nat) (p1 : Option (Nat × Nat)) (x2 : Int) (s3 : ByteArray) (H : SH) (K : SH → Prop) : Prop :=
  ∀ b4, H b4 = none →
  ∃ (x6 : Int),
  SH.has (SH.upd H b4 ⟨[.int .i64 x2, .string s3], 78, false, 2⟩) (b4, 0) (.int .i64 x6) ∧
  (x6 = (-1) →
    (p1 = none →
      False
    ) ∧ (∀ b9 o10, p1 = some (b9, o10) →
      ∃ (s11 : ByteArray),
      SH.has (SH.upd H b4 ⟨[.int .i64 x2, .string s3], 78, false, 2⟩) (b9, o10) (.string s11) ∧
      ∃ (s13 : ByteArray),
      SH.has (SH.upd H b4 ⟨[.int .i64 x2, .string s3], 78, false, 2⟩) (b4, 1) (.string s13) ∧
      s11.size + s13.size ≤ 9223372036854775807 ∧
      SH.wrs (SH.upd H b4 ⟨[.int .i64 x2, .string s3], 78, false, 2⟩) (b9, o10) 1 ∧
      ∃ Hr, SH.le Hr (SH.setl (SH.upd H b4 ⟨[.int .i64 x2, .string s3], 78, false, 2⟩) (b9, o10) [.string (s11 ++ s13)]) ∧ K Hr
    )
  ) ∧ (¬ (x6 = (-1)) →
    (p1 = none →
      False
    ) ∧ (∀ b18 o19, p1 = some (b18, o19) →
      ∃ (l20 : Sl),
      SH.has (SH.upd H b4 ⟨[.int .i64 x2, .string s3], 78, false, 2⟩) (b18, (o19 + 1)) (sv l20) ∧
      ∃ (x22 : Int),
      SH.has (SH.upd H b4 ⟨[.int .i64 x2, .string s3], 78, false, 2⟩) (b4, 0) (.int .i64 x22) ∧
      ∃ (s24 : ByteArray),
      SH.has (SH.upd H b4 ⟨[.int .i64 x2, .string s3], 78, false, 2⟩) (b4, 1) (.string s24) ∧
      ∃ p26, l20.a = some p26 ∧ 0 ≤ x22 ∧ x22 < (l20.len : Int) ∧
      SH.wrs (SH.upd H b4 ⟨[.int .i64 x2, .string s3], 78, false, 2⟩) (p26.1, (p26.2 + x22.toNat * 1)) 1 ∧
      ∃ Hr, SH.le Hr (SH.setl (SH.upd H b4 ⟨[.int .i64 x2, .string s3], 78, false, 2⟩) (p26.1, (p26.2 + x22.toNat * 1)) [.string s24]) ∧ K Hr
    )
  )
set_option maxHeartbeats 8000000 in
theorem disk_content_put.sound (F : Nat) (p1 : Option (Nat × Nat)) (x2 : Int) (s3 : ByteArray) (H : SH) (K : SH → Prop) (h : disk_content_put.wp F p1 x2 s3 H K) : SCalls Tryd.prog 47 #[pv p1, .agg #[.int .i64 x2, .string s3]] H (fun v H' => v = .tuple #[] ∧ K H') := by
  unfold disk_content_put.wp at h
  refine SCalls.body Tryd.func47 rfl (Nat.le_of_ble_eq_true rfl) ?_
  refine SW.seq ?_
  refine SW.region ?_
  refine SOps.box rfl rfl (wantN rfl) (v := .agg #[.int .i64 x2, .string s3]) rfl (fun b4 c5 => ?_)
  replace h := h b4 c5
  refine SOps.nil ?_
  refine SW.seq ?_
  refine SW.seq ?_
  refine SW.region ?_
  refine SOps.val (v := pv (some (b4, 0))) rfl (wantN rfl) (fun _ => by kernel_rfl) ?_
  obtain ⟨x6, c7, h⟩ := h
  refine SOps.rd (v := .int .i64 x6) rfl (wantN rfl) (fun w hw => ev_load1 rfl (fun _ => by kernel_rfl) (p := (b4, 0)) rfl c7 w hw) ?_
  refine SOps.val (v := .bool (x6 == (-1))) rfl (wantN rfl) (fun _ => by kernel_rfl) ?_
  refine SOps.nil ?_
  by_cases c8 : x6 = (-1)
  · replace h := h.1 c8
    have dc8 : (x6 == (-1)) = true := (beq_iff_eq.mpr c8)
    refine SW.cond_t (t := (x6 == (-1))) rfl dc8 ?_
    refine SW.seq ?_
    rcases p1 with _ | ⟨b9, o10⟩
    · replace h := h.1 rfl
      exact h.elim
    · replace h := h.2 b9 o10 rfl
      obtain ⟨s11, c12, h⟩ := h
      obtain ⟨s13, c14, h⟩ := h
      obtain ⟨c15, h⟩ := h
      refine SW.drawA [.val (pv (some (b9, o10))), .val (pv (some (b9, o10))), .val (pv (some (b9, o10))), .val (.string s11), .val (pv (some (b4, 1))), .val (.string s13), .val (.string (s11 ++ s13)), .val (pv (some (b9, o10))), .val (pv (some (b9, o10)))] (by kernel_rfl) (by kernel_rfl) (And.intro ?_ (And.intro ?_ (And.intro ?_ (And.intro ?_ (And.intro ?_ (And.intro ?_ (And.intro ?_ (And.intro ?_ (And.intro ?_ (trivial)))))))))) ?_
      · clear h
        intro fr' T' H' hle hs hA
        have a0 : fr' 0 = pv (some (b9, o10)) := hs 0 (by kernel_rfl)
        obtain ⟨g', hg'⟩ : ∃ g' : Fr, fr' = g'.upds [(0, pv (some (b9, o10)))] := ⟨_, Fr.upds_self _ _ ⟨a0, trivial⟩⟩
        subst hg'
        exact SA.val (v := pv (some (b9, o10))) rfl (wantN rfl) (fun _ => by kernel_rfl)
      · clear h
        intro fr' T' H' hle hs hA
        have a7 : fr' 7 = pv (some (b9, o10)) := hA 0 (by kernel_rfl)
        obtain ⟨g', hg'⟩ : ∃ g' : Fr, fr' = g'.upds [(7, pv (some (b9, o10)))] := ⟨_, Fr.upds_self _ _ ⟨a7, trivial⟩⟩
        subst hg'
        exact SA.val (v := pv (some (b9, o10))) rfl (wantN rfl) (fun _ => by kernel_rfl)
      · clear h
        intro fr' T' H' hle hs hA
        have a8 : fr' 8 = pv (some (b9, o10)) := hA 1 (by kernel_rfl)
        obtain ⟨g', hg'⟩ : ∃ g' : Fr, fr' = g'.upds [(8, pv (some (b9, o10)))] := ⟨_, Fr.upds_self _ _ ⟨a8, trivial⟩⟩
        subst hg'
        exact SA.val (v := pv (some (b9, o10))) rfl (wantN rfl) (fun _ => by kernel_rfl)
      · clear h
        intro fr' T' H' hle hs hA
        have a9 : fr' 9 = pv (some (b9, o10)) := hA 2 (by kernel_rfl)
        obtain ⟨g', hg'⟩ : ∃ g' : Fr, fr' = g'.upds [(9, pv (some (b9, o10)))] := ⟨_, Fr.upds_self _ _ ⟨a9, trivial⟩⟩
        subst hg'
        exact SA.rd hle (v := .string s11) rfl (wantN rfl) (fun w hw => ev_load1 rfl (fun _ => by kernel_rfl) (p := (b9, o10)) rfl c12 w hw)
      · clear h
        intro fr' T' H' hle hs hA
        have a3 : fr' 3 = pv (some (b4, 0)) := hs 3 (by kernel_rfl)
        obtain ⟨g', hg'⟩ : ∃ g' : Fr, fr' = g'.upds [(3, pv (some (b4, 0)))] := ⟨_, Fr.upds_self _ _ ⟨a3, trivial⟩⟩
        subst hg'
        exact SA.val (v := pv (some (b4, 1))) rfl (wantN rfl) (fun _ => by kernel_rfl)
      · clear h
        intro fr' T' H' hle hs hA
        have a11 : fr' 11 = pv (some (b4, 1)) := hA 4 (by kernel_rfl)
        obtain ⟨g', hg'⟩ : ∃ g' : Fr, fr' = g'.upds [(11, pv (some (b4, 1)))] := ⟨_, Fr.upds_self _ _ ⟨a11, trivial⟩⟩
        subst hg'
        exact SA.rd hle (v := .string s13) rfl (wantN rfl) (fun w hw => ev_load1 rfl (fun _ => by kernel_rfl) (p := (b4, 1)) rfl c14 w hw)
      · clear h
        intro fr' T' H' hle hs hA
        have a10 : fr' 10 = (.string s11 : Value) := hA 3 (by kernel_rfl)
        have a12 : fr' 12 = (.string s13 : Value) := hA 5 (by kernel_rfl)
        obtain ⟨g', hg'⟩ : ∃ g' : Fr, fr' = g'.upds [(10, (.string s11 : Value)), (12, (.string s13 : Value))] := ⟨_, Fr.upds_self _ _ ⟨a10, a12, trivial⟩⟩
        subst hg'
        exact SA.val (v := .string (s11 ++ s13)) rfl (wantN rfl) (fun w => ev_cat rfl rfl rfl c15 w)
      · clear h
        intro fr' T' H' hle hs hA
        have a7 : fr' 7 = pv (some (b9, o10)) := hA 0 (by kernel_rfl)
        obtain ⟨g', hg'⟩ : ∃ g' : Fr, fr' = g'.upds [(7, pv (some (b9, o10)))] := ⟨_, Fr.upds_self _ _ ⟨a7, trivial⟩⟩
        subst hg'
        exact SA.val (v := pv (some (b9, o10))) rfl (wantN rfl) (fun _ => by kernel_rfl)
      · clear h
        intro fr' T' H' hle hs hA
        have a14 : fr' 14 = pv (some (b9, o10)) := hA 7 (by kernel_rfl)
        obtain ⟨g', hg'⟩ : ∃ g' : Fr, fr' = g'.upds [(14, pv (some (b9, o10)))] := ⟨_, Fr.upds_self _ _ ⟨a14, trivial⟩⟩
        subst hg'
        exact SA.val (v := pv (some (b9, o10))) rfl (wantN rfl) (fun _ => by kernel_rfl)
      · intro fr' T' H' hle hs hA
        have a13 : fr' 13 = (.string (s11 ++ s13) : Value) := hA 6 (Nat.le_of_ble_eq_true rfl)
        have a15 : fr' 15 = pv (some (b9, o10)) := hA 8 (Nat.le_of_ble_eq_true rfl)
        obtain ⟨g', hg'⟩ : ∃ g' : Fr, fr' = g'.upds [(13, (.string (s11 ++ s13) : Value)), (15, pv (some (b9, o10)))] := ⟨_, Fr.upds_self _ _ ⟨a13, a15, trivial⟩⟩
        subst hg'
        refine SOps.forget (SH.upd H b4 ⟨[.int .i64 x2, .string s3], 78, false, 2⟩) hle ?_
        clear hle hs hA
        obtain ⟨c17, h⟩ := h
        refine SOps.storeL (p := (b9, o10)) (v := .string (s11 ++ s13)) (cs := [.string (s11 ++ s13)]) rfl rfl (wantN rfl) (size := 1) (by kernel_rfl) rfl rfl rfl rfl (by simp [Value.oneCell', errV_one, pv, sv]) c17 ?_
        refine SOps.nil ?_
        obtain ⟨Hr, hr, h⟩ := h
        exact SW.ret (retQ.mk (.tuple #[]) (res0 rfl) hr ⟨rfl, h⟩)
  · replace h := h.2 c8
    have dc8 : (x6 == (-1)) = false := (beq_eq_false_iff_ne.mpr c8)
    refine SW.cond_f (t := (x6 == (-1))) rfl dc8 ?_
    refine SW.skip ?_
    rcases p1 with _ | ⟨b18, o19⟩
    · replace h := h.1 rfl
      exact h.elim
    · replace h := h.2 b18 o19 rfl
      obtain ⟨l20, c21, h⟩ := h
      obtain ⟨x22, c23, h⟩ := h
      obtain ⟨s24, c25, h⟩ := h
      obtain ⟨p26, c27, c28, c29, h⟩ := h
      refine SW.drawA [.val (pv (some (b18, o19))), .val (pv (some (b18, o19))), .val (pv (some (b18, (o19 + 1)))), .val (sv l20), .val (pv (some (b4, 0))), .val (.int .i64 x22), .val (pv (some (b4, 1))), .val (.string s24), .val (pv (some (p26.1, (p26.2 + x22.toNat * 1))))] (by kernel_rfl) (by kernel_rfl) (And.intro ?_ (And.intro ?_ (And.intro ?_ (And.intro ?_ (And.intro ?_ (And.intro ?_ (And.intro ?_ (And.intro ?_ (And.intro ?_ (trivial)))))))))) ?_
      · clear h
        intro fr' T' H' hle hs hA
        have a0 : fr' 0 = pv (some (b18, o19)) := hs 0 (by kernel_rfl)
        obtain ⟨g', hg'⟩ : ∃ g' : Fr, fr' = g'.upds [(0, pv (some (b18, o19)))] := ⟨_, Fr.upds_self _ _ ⟨a0, trivial⟩⟩
        subst hg'
        exact SA.val (v := pv (some (b18, o19))) rfl (wantN rfl) (fun _ => by kernel_rfl)
      · clear h
        intro fr' T' H' hle hs hA
        have a16 : fr' 16 = pv (some (b18, o19)) := hA 0 (by kernel_rfl)
        obtain ⟨g', hg'⟩ : ∃ g' : Fr, fr' = g'.upds [(16, pv (some (b18, o19)))] := ⟨_, Fr.upds_self _ _ ⟨a16, trivial⟩⟩
        subst hg'
        exact SA.val (v := pv (some (b18, o19))) rfl (wantN rfl) (fun _ => by kernel_rfl)
      · clear h
        intro fr' T' H' hle hs hA
        have a17 : fr' 17 = pv (some (b18, o19)) := hA 1 (by kernel_rfl)
        obtain ⟨g', hg'⟩ : ∃ g' : Fr, fr' = g'.upds [(17, pv (some (b18, o19)))] := ⟨_, Fr.upds_self _ _ ⟨a17, trivial⟩⟩
        subst hg'
        exact SA.val (v := pv (some (b18, (o19 + 1)))) rfl (wantN rfl) (fun _ => by kernel_rfl)
      · clear h
        intro fr' T' H' hle hs hA
        have a18 : fr' 18 = pv (some (b18, (o19 + 1))) := hA 2 (by kernel_rfl)
        obtain ⟨g', hg'⟩ : ∃ g' : Fr, fr' = g'.upds [(18, pv (some (b18, (o19 + 1))))] := ⟨_, Fr.upds_self _ _ ⟨a18, trivial⟩⟩
        subst hg'
        exact SA.rd hle (v := sv l20) rfl (wantN rfl) (fun w hw => ev_load1 rfl (fun _ => by kernel_rfl) (p := (b18, (o19 + 1))) rfl c21 w hw)
      · clear h
        intro fr' T' H' hle hs hA
        have a3 : fr' 3 = pv (some (b4, 0)) := hs 3 (by kernel_rfl)
        obtain ⟨g', hg'⟩ : ∃ g' : Fr, fr' = g'.upds [(3, pv (some (b4, 0)))] := ⟨_, Fr.upds_self _ _ ⟨a3, trivial⟩⟩
        subst hg'
        exact SA.val (v := pv (some (b4, 0))) rfl (wantN rfl) (fun _ => by kernel_rfl)
      · clear h
        intro fr' T' H' hle hs hA
        have a20 : fr' 20 = pv (some (b4, 0)) := hA 4 (by kernel_rfl)
        obtain ⟨g', hg'⟩ : ∃ g' : Fr, fr' = g'.upds [(20, pv (some (b4, 0)))] := ⟨_, Fr.upds_self _ _ ⟨a20, trivial⟩⟩
        subst hg'
        exact SA.rd hle (v := .int .i64 x22) rfl (wantN rfl) (fun w hw => ev_load1 rfl (fun _ => by kernel_rfl) (p := (b4, 0)) rfl c23 w hw)
      · clear h
        intro fr' T' H' hle hs hA
        have a3 : fr' 3 = pv (some (b4, 0)) := hs 3 (by kernel_rfl)
        obtain ⟨g', hg'⟩ : ∃ g' : Fr, fr' = g'.upds [(3, pv (some (b4, 0)))] := ⟨_, Fr.upds_self _ _ ⟨a3, trivial⟩⟩
        subst hg'
        exact SA.val (v := pv (some (b4, 1))) rfl (wantN rfl) (fun _ => by kernel_rfl)
      · clear h
        intro fr' T' H' hle hs hA
        have a22 : fr' 22 = pv (some (b4, 1)) := hA 6 (by kernel_rfl)
        obtain ⟨g', hg'⟩ : ∃ g' : Fr, fr' = g'.upds [(22, pv (some (b4, 1)))] := ⟨_, Fr.upds_self _ _ ⟨a22, trivial⟩⟩
        subst hg'
        exact SA.rd hle (v := .string s24) rfl (wantN rfl) (fun w hw => ev_load1 rfl (fun _ => by kernel_rfl) (p := (b4, 1)) rfl c25 w hw)
      · clear h
        intro fr' T' H' hle hs hA
        have a19 : fr' 19 = sv l20 := hA 3 (by kernel_rfl)
        have a21 : fr' 21 = (.int .i64 x22 : Value) := hA 5 (by kernel_rfl)
        obtain ⟨g', hg'⟩ : ∃ g' : Fr, fr' = g'.upds [(19, sv l20), (21, (.int .i64 x22 : Value))] := ⟨_, Fr.upds_self _ _ ⟨a19, a21, trivial⟩⟩
        subst hg'
        exact SA.val (v := pv (some (p26.1, (p26.2 + x22.toNat * 1)))) rfl (wantN rfl) (fun w => ev_iaddr rfl Tryd.underlying55 (size := 1) (by kernel_rfl) rfl rfl c27 c28 c29 w)
      · intro fr' T' H' hle hs hA
        have a23 : fr' 23 = (.string s24 : Value) := hA 7 (Nat.le_of_ble_eq_true rfl)
        have a24 : fr' 24 = pv (some (p26.1, (p26.2 + x22.toNat * 1))) := hA 8 (Nat.le_of_ble_eq_true rfl)
        obtain ⟨g', hg'⟩ : ∃ g' : Fr, fr' = g'.upds [(23, (.string s24 : Value)), (24, pv (some (p26.1, (p26.2 + x22.toNat * 1))))] := ⟨_, Fr.upds_self _ _ ⟨a23, a24, trivial⟩⟩
        subst hg'
        refine SOps.forget (SH.upd H b4 ⟨[.int .i64 x2, .string s3], 78, false, 2⟩) hle ?_
        clear hle hs hA
        obtain ⟨c31, h⟩ := h
        refine SOps.storeL (p := (p26.1, (p26.2 + x22.toNat * 1))) (v := .string s24) (cs := [.string s24]) rfl rfl (wantN rfl) (size := 1) (by kernel_rfl) rfl rfl rfl rfl (by simp [Value.oneCell', errV_one, pv, sv]) c31 ?_
        refine SOps.nil ?_
        obtain ⟨Hr, hr, h⟩ := h
        exact retQ.mkN (.tuple #[]) (res0 rfl) hr ⟨rfl, h⟩

/-! ### (*lading/disk.Disk).does: function 43 -/
def disk_Disk_does.wp (F : Nat) (p1 : Option (Nat × Nat)) (x2 : Int) (s3 : ByteArray) (H : SH) (K : Option EV → SH → Prop) : Prop :=
  ∀ b4, H b4 = none →
  (p1 = none →
    False
  ) ∧ (∀ b6 o7, p1 = some (b6, o7) →
    disk_fuse_burn.wp F (some (b6, o7)) (SH.upd H b4 ⟨[.int .i64 x2, .string s3], 78, false, 2⟩) (fun e8 H9 =>
      (e8 = none →
        ∃ (x11 : Int),
        SH.has H9 (b4, 0) (.int .i64 x11) ∧
        (x11 ≠ (-1) →
          ∃ (x14 : Int) (s15 : ByteArray),
          SH.row H9 (some (b4, 0)) [.int .i64 x14, .string s15] ∧
          disk_content_put.wp F (some (b6, (o7 + 2))) x14 s15 H9 (fun H18 =>
            ∃ (l19 : Sl),
            SH.has H18 (b6, (o7 + 6)) (sv l19) ∧
            ∃ (x21 : Int) (s22 : ByteArray),
            SH.row H18 (some (b4, 0)) [.int .i64 x21, .string s22] ∧
            ∀ b24, H18 b24 = none → 
            ∃ w30, SH.row (SH.upd H18 b24 (⟨[.int .i64 x21, .string s22], 78, false, 2⟩ : AO)) (⟨some (b24, 0), 1, 1⟩ : Sl).a w30 ∧
            AppendQ (SH.upd H18 b24 (⟨[.int .i64 x21, .string s22], 78, false, 2⟩ : AO)) 78 2 24 l19 (⟨some (b24, 0), 1, 1⟩ : Sl).len w30 (fun l27 H28 =>
              SH.wrs H28 (b6, (o7 + 6)) 1 ∧
              ∃ Hr, SH.le Hr (SH.setl H28 (b6, (o7 + 6)) [sv l27]) ∧ K none Hr
            )
          )
        ) ∧ (¬ (x11 ≠ (-1)) →
          ∃ (s32 : ByteArray),
          SH.has H9 (b4, 1) (.string s32) ∧
          ((s32 = ByteArray.empty) →
            ∃ Hr, SH.le Hr H9 ∧ K none Hr
          ) ∧ (¬ ((s32 = ByteArray.empty)) →
            ∃ (x35 : Int) (s36 : ByteArray),
            SH.row H9 (some (b4, 0)) [.int .i64 x35, .string s36] ∧
            disk_content_put.wp F (some (b6, (o7 + 2))) x35 s36 H9 (fun H39 =>
              ∃ (l40 : Sl),
              SH.has H39 (b6, (o7 + 6)) (sv l40) ∧
              ∃ (x42 : Int) (s43 : ByteArray),
              SH.row H39 (some (b4, 0)) [.int .i64 x42, .string s43] ∧
              ∀ b45, H39 b45 = none → 
              ∃ w51, SH.row (SH.upd H39 b45 (⟨[.int .i64 x42, .string s43], 78, false, 2⟩ : AO)) (⟨some (b45, 0), 1, 1⟩ : Sl).a w51 ∧
              AppendQ (SH.upd H39 b45 (⟨[.int .i64 x42, .string s43], 78, false, 2⟩ : AO)) 78 2 24 l40 (⟨some (b45, 0), 1, 1⟩ : Sl).len w51 (fun l48 H49 =>
                SH.wrs H49 (b6, (o7 + 6)) 1 ∧
                ∃ Hr, SH.le Hr (SH.setl H49 (b6, (o7 + 6)) [sv l48]) ∧ K none Hr
              )
            )
          )
        )
      ) ∧ (∀ v10, e8 = some v10 →
        ∃ Hr, SH.le Hr H9 ∧ K (some v10) Hr
      )
    )
  )
set_option maxHeartbeats 8000000 in
theorem disk_Disk_does.sound (F : Nat) (p1 : Option (Nat × Nat)) (x2 : Int) (s3 : ByteArray) (H : SH) (K : Option EV → SH → Prop) (h : disk_Disk_does.wp F p1 x2 s3 H K) : SCalls Tryd.prog 43 #[pv p1, .agg #[.int .i64 x2, .string s3]] H (fun v H' => ∃ (e54 : Option EV), v = errV e54 ∧ K e54 H') := by
  unfold disk_Disk_does.wp at h
  refine SCalls.body Tryd.func43 rfl (Nat.le_of_ble_eq_true rfl) ?_
  refine SW.seq ?_
  refine SW.region ?_
  refine SOps.box rfl rfl (wantN rfl) (v := .agg #[.int .i64 x2, .string s3]) rfl (fun b4 c5 => ?_)
  replace h := h b4 c5
  refine SOps.val (v := errV none) rfl (wantN rfl) (fun _ => by kernel_rfl) ?_
  refine SOps.nil ?_
  refine SW.seq ?_
  refine SW.seq ?_
  refine SW.region ?_
  refine SOps.val (v := pv p1) rfl (wantN rfl) (fun _ => by kernel_rfl) ?_
  rcases p1 with _ | ⟨b6, o7⟩
  · replace h := h.1 rfl
    exact h.elim
  · replace h := h.2 b6 o7 rfl
    refine SOps.val (v := pv (some (b6, o7))) rfl (wantN rfl) (fun _ => by kernel_rfl) ?_
    refine SOps.val (v := pv (some (b6, o7))) rfl (wantN rfl) (fun _ => by kernel_rfl) ?_
    refine SOps.enter rfl (wantN rfl) (fun _ => by kernel_rfl) (disk_fuse_burn.sound F (some (b6, o7)) (SH.upd H b4 ⟨[.int .i64 x2, .string s3], 78, false, 2⟩) _ h) ?_
    clear h
    rintro v H9 ⟨e8, rfl, h⟩
    refine SOps.val (v := errV e8) rfl (wantN rfl) (fun _ => by kernel_rfl) ?_
    refine SOps.nil ?_
    refine SW.seq ?_
    refine SW.region ?_
    refine SOps.val (v := errV e8) rfl (wantN rfl) (fun _ => by kernel_rfl) ?_
    rcases e8 with _ | v10
    · replace h := h.1 rfl
      refine SOps.val (v := .bool false) rfl (wantN rfl) (fun w => ev_errNe (e := none) rfl Tryd.underlying28 rfl rfl w) ?_
      refine SOps.nil ?_
      refine SW.cond_f (t := false) rfl rfl ?_
      refine SW.skip ?_
      refine SW.seq ?_
      refine SW.seq ?_
      refine SW.region ?_
      refine SOps.val (v := pv (some (b4, 0))) rfl (wantN rfl) (fun _ => by kernel_rfl) ?_
      obtain ⟨x11, c12, h⟩ := h
      refine SOps.rd (v := .int .i64 x11) rfl (wantN rfl) (fun w hw => ev_load1 rfl (fun _ => by kernel_rfl) (p := (b4, 0)) rfl c12 w hw) ?_
      refine SOps.val (v := .bool (x11 != (-1))) rfl (wantN rfl) (fun _ => by kernel_rfl) ?_
      refine SOps.val (v := .bool (x11 != (-1))) rfl (wantN rfl) (fun _ => by kernel_rfl) ?_
      by_cases c13 : x11 ≠ (-1)
      · replace h := h.1 c13
        have dc13 : (x11 != (-1)) = true := (bne_iff_ne.mpr c13)
        refine SOps.off rfl (wantX (c := (x11 != (-1))) rfl rfl rfl dc13) ?_
        refine SOps.off rfl (wantX (c := (x11 != (-1))) rfl rfl rfl dc13) ?_
        refine SOps.off rfl (wantX (c := (x11 != (-1))) rfl rfl rfl dc13) ?_
        refine SOps.val (v := .bool true) rfl (wantN rfl) (fun w => ev_pickT (v := .bool true) rfl (t := (x11 != (-1))) rfl dc13 rfl w) ?_
        refine SOps.nil ?_
        refine SW.cond_t (t := true) rfl rfl ?_
        refine SW.seq ?_
        obtain ⟨x14, s15, c16, h⟩ := h
        refine SW.drawA [.val (pv (some (b6, o7))), .val (pv (some (b6, o7))), .val (pv (some (b6, (o7 + 2)))), .val (.agg #[.int .i64 x14, .string s15])] (by kernel_rfl) (by kernel_rfl) (And.intro ?_ (And.intro ?_ (And.intro ?_ (And.intro ?_ (trivial))))) ?_
        · clear h
          intro fr' T' H' hle hs hA
          have a0 : fr' 0 = pv (some (b6, o7)) := hs 0 (by kernel_rfl)
          obtain ⟨g', hg'⟩ : ∃ g' : Fr, fr' = g'.upds [(0, pv (some (b6, o7)))] := ⟨_, Fr.upds_self _ _ ⟨a0, trivial⟩⟩
          subst hg'
          exact SA.val (v := pv (some (b6, o7))) rfl (wantN rfl) (fun _ => by kernel_rfl)
        · clear h
          intro fr' T' H' hle hs hA
          have a21 : fr' 21 = pv (some (b6, o7)) := hA 0 (by kernel_rfl)
          obtain ⟨g', hg'⟩ : ∃ g' : Fr, fr' = g'.upds [(21, pv (some (b6, o7)))] := ⟨_, Fr.upds_self _ _ ⟨a21, trivial⟩⟩
          subst hg'
          exact SA.val (v := pv (some (b6, o7))) rfl (wantN rfl) (fun _ => by kernel_rfl)
        · clear h
          intro fr' T' H' hle hs hA
          have a22 : fr' 22 = pv (some (b6, o7)) := hA 1 (by kernel_rfl)
          obtain ⟨g', hg'⟩ : ∃ g' : Fr, fr' = g'.upds [(22, pv (some (b6, o7)))] := ⟨_, Fr.upds_self _ _ ⟨a22, trivial⟩⟩
          subst hg'
          exact SA.val (v := pv (some (b6, (o7 + 2)))) rfl (wantN rfl) (fun _ => by kernel_rfl)
        · clear h
          intro fr' T' H' hle hs hA
          have a3 : fr' 3 = pv (some (b4, 0)) := hs 3 (by kernel_rfl)
          obtain ⟨g', hg'⟩ : ∃ g' : Fr, fr' = g'.upds [(3, pv (some (b4, 0)))] := ⟨_, Fr.upds_self _ _ ⟨a3, trivial⟩⟩
          subst hg'
          exact SA.rd hle (v := .agg #[.int .i64 x14, .string s15]) rfl (wantN rfl) (fun w hw => ev_loadN rfl (fun _ => by kernel_rfl) (size := 2) (by kernel_rfl) (p := (b4, 0)) rfl rfl c16 w hw)
        · intro fr' T' H' hle hs hA
          have a0 : fr' 0 = pv (some (b6, o7)) := hs 0 (by kernel_rfl)
          have a3 : fr' 3 = pv (some (b4, 0)) := hs 3 (by kernel_rfl)
          have a23 : fr' 23 = pv (some (b6, (o7 + 2))) := hA 2 (Nat.le_of_ble_eq_true rfl)
          have a24 : fr' 24 = (.agg #[.int .i64 x14, .string s15] : Value) := hA 3 (Nat.le_of_ble_eq_true rfl)
          obtain ⟨g', hg'⟩ : ∃ g' : Fr, fr' = g'.upds [(0, pv (some (b6, o7))), (3, pv (some (b4, 0))), (23, pv (some (b6, (o7 + 2)))), (24, (.agg #[.int .i64 x14, .string s15] : Value))] := ⟨_, Fr.upds_self _ _ ⟨a0, a3, a23, a24, trivial⟩⟩
          subst hg'
          refine SOps.forget (H9) hle ?_
          clear hle hs hA
          refine SOps.enter rfl (wantN rfl) (fun _ => by kernel_rfl) (disk_content_put.sound F (some (b6, (o7 + 2))) x14 s15 H9 _ h) ?_
          clear h
          rintro v H18 ⟨rfl, h⟩
          refine SOps.nil ?_
          obtain ⟨l19, c20, h⟩ := h
          obtain ⟨x21, s22, c23, h⟩ := h
          refine SW.drawE [0] [.val (pv (some (b6, o7))), .val (pv (some (b6, o7))), .val (pv (some (b6, o7))), .val (pv (some (b6, (o7 + 6)))), .val (sv l19), .val (.agg #[.int .i64 x21, .string s22]), .fresh 6 (fun b c => sv ⟨some (b, 0), 1, 1⟩) (fun c => (⟨[.int .i64 x21, .string s22], 78, false, 2⟩ : AO)) (fun _ => True)] (by kernel_rfl) (by kernel_rfl) (by kernel_rfl) ⟨⟨_, _, rfl, rfl, by kernel_rfl, ?_⟩, trivial⟩ (And.intro ?_ (And.intro ?_ (And.intro ?_ (And.intro ?_ (And.intro ?_ (And.intro ?_ (And.intro ?_ (trivial)))))))) ?_
          · clear h
            intro fr' T' H' hle hs hA
            have a0 : fr' 0 = pv (some (b6, o7)) := hs 0 (by kernel_rfl)
            obtain ⟨g', hg'⟩ : ∃ g' : Fr, fr' = g'.upds [(0, pv (some (b6, o7)))] := ⟨_, Fr.upds_self _ _ ⟨a0, trivial⟩⟩
            subst hg'
            exact ⟨wantN rfl, (fun _ => by kernel_rfl)⟩
          · clear h
            intro fr' T' H' hle hs hA
            have a0 : fr' 0 = pv (some (b6, o7)) := hs 0 (by kernel_rfl)
            obtain ⟨g', hg'⟩ : ∃ g' : Fr, fr' = g'.upds [(0, pv (some (b6, o7)))] := ⟨_, Fr.upds_self _ _ ⟨a0, trivial⟩⟩
            subst hg'
            exact SA.val (v := pv (some (b6, o7))) rfl (wantN rfl) (fun _ => by kernel_rfl)
          · clear h
            intro fr' T' H' hle hs hA
            have a0 : fr' 0 = pv (some (b6, o7)) := hs 0 (by kernel_rfl)
            obtain ⟨g', hg'⟩ : ∃ g' : Fr, fr' = g'.upds [(0, pv (some (b6, o7)))] := ⟨_, Fr.upds_self _ _ ⟨a0, trivial⟩⟩
            subst hg'
            exact SA.val (v := pv (some (b6, o7))) rfl (wantN rfl) (fun _ => by kernel_rfl)
          · clear h
            intro fr' T' H' hle hs hA
            have a27 : fr' 27 = pv (some (b6, o7)) := hA 1 (by kernel_rfl)
            obtain ⟨g', hg'⟩ : ∃ g' : Fr, fr' = g'.upds [(27, pv (some (b6, o7)))] := ⟨_, Fr.upds_self _ _ ⟨a27, trivial⟩⟩
            subst hg'
            exact SA.val (v := pv (some (b6, o7))) rfl (wantN rfl) (fun _ => by kernel_rfl)
          · clear h
            intro fr' T' H' hle hs hA
            have a28 : fr' 28 = pv (some (b6, o7)) := hA 2 (by kernel_rfl)
            obtain ⟨g', hg'⟩ : ∃ g' : Fr, fr' = g'.upds [(28, pv (some (b6, o7)))] := ⟨_, Fr.upds_self _ _ ⟨a28, trivial⟩⟩
            subst hg'
            exact SA.val (v := pv (some (b6, (o7 + 6)))) rfl (wantN rfl) (fun _ => by kernel_rfl)
          · clear h
            intro fr' T' H' hle hs hA
            have a29 : fr' 29 = pv (some (b6, (o7 + 6))) := hA 3 (by kernel_rfl)
            obtain ⟨g', hg'⟩ : ∃ g' : Fr, fr' = g'.upds [(29, pv (some (b6, (o7 + 6))))] := ⟨_, Fr.upds_self _ _ ⟨a29, trivial⟩⟩
            subst hg'
            exact SA.rd hle (v := sv l19) rfl (wantN rfl) (fun w hw => ev_load1 rfl (fun _ => by kernel_rfl) (p := (b6, (o7 + 6))) rfl c20 w hw)
          · clear h
            intro fr' T' H' hle hs hA
            have a3 : fr' 3 = pv (some (b4, 0)) := hs 3 (by kernel_rfl)
            obtain ⟨g', hg'⟩ : ∃ g' : Fr, fr' = g'.upds [(3, pv (some (b4, 0)))] := ⟨_, Fr.upds_self _ _ ⟨a3, trivial⟩⟩
            subst hg'
            exact SA.rd hle (v := .agg #[.int .i64 x21, .string s22]) rfl (wantN rfl) (fun w hw => ev_loadN rfl (fun _ => by kernel_rfl) (size := 2) (by kernel_rfl) (p := (b4, 0)) rfl rfl c23 w hw)
          · clear h
            intro fr' T' H' hle hs hA
            have a31 : fr' 31 = (.agg #[.int .i64 x21, .string s22] : Value) := hA 5 (by kernel_rfl)
            obtain ⟨g', hg'⟩ : ∃ g' : Fr, fr' = g'.upds [(31, (.agg #[.int .i64 x21, .string s22] : Value))] := ⟨_, Fr.upds_self _ _ ⟨a31, trivial⟩⟩
            subst hg'
            exact SA.fresh hle (fun h => SOps.lit (E := 78) (cs := #[.int .i64 x21, .string s22]) rfl rfl (wantN rfl) (fun _ => by kernel_rfl) (fun b c => h b 0 c trivial))
          · intro fr' T' H' hle hs hA
            have a26 : fr' 26 = pv (some (b6, o7)) := hA 0 (Nat.le_of_ble_eq_true rfl)
            have a30 : fr' 30 = sv l19 := hA 4 (Nat.le_of_ble_eq_true rfl)
            obtain ⟨b24, n25, a32, nb24, kb24, tb24, ob24⟩ := hA 6 (Nat.le_of_ble_eq_true rfl)
            obtain ⟨g', hg'⟩ : ∃ g' : Fr, fr' = g'.upds [(26, pv (some (b6, o7))), (30, sv l19), (32, sv (⟨some (b24, 0), 1, 1⟩ : Sl))] := ⟨_, Fr.upds_self _ _ ⟨a26, a30, a32, trivial⟩⟩
            subst hg'
            refine SOps.forget (SH.upd H18 b24 (⟨[.int .i64 x21, .string s22], 78, false, 2⟩ : AO)) (SH.le.upd_in hle kb24) ?_
            replace h := h b24 nb24
            clear hle hs hA
            obtain ⟨w30, c31, h⟩ := h
            refine SOps.append (z := .agg #[.int .i64 0, .string ByteArray.empty]) (size := 2) (bytes := 24) rfl rfl (wantN rfl) Tryd.underlying73 (by kernel_rfl) rfl rfl rfl (.inl ⟨⟨_, Tryd.underlying73⟩, _, rfl, rfl, c31⟩) (AppendQ.mono h ?_)
            clear h
            intro l27 H28 h
            refine SOps.val (v := pv (some (b6, o7))) rfl (wantN rfl) (fun _ => by kernel_rfl) ?_
            refine SOps.val (v := pv (some (b6, (o7 + 6)))) rfl (wantN rfl) (fun _ => by kernel_rfl) ?_
            obtain ⟨c29, h⟩ := h
            refine SOps.storeL (p := (b6, (o7 + 6))) (v := sv l27) (cs := [sv l27]) rfl rfl (wantN rfl) (size := 1) (by kernel_rfl) rfl rfl rfl rfl (by simp [Value.oneCell', errV_one, pv, sv]) c29 ?_
            refine SOps.nil ?_
            refine SW.seq ?_
            refine SW.region ?_
            refine SOps.val (v := errV none) rfl (wantN rfl) (fun _ => by kernel_rfl) ?_
            refine SOps.nil ?_
            obtain ⟨Hr, hr, h⟩ := h
            exact SW.ret (retQ.mk (errV none) (res1 rfl rfl) hr ⟨none, rfl, h⟩)
      · replace h := h.2 c13
        have dc13 : (x11 != (-1)) = false := (by simpa using c13)
        refine SOps.val (v := pv (some (b4, 1))) rfl (wantY (c := (x11 != (-1))) rfl rfl rfl dc13) (fun _ => by kernel_rfl) ?_
        obtain ⟨s32, c33, h⟩ := h
        refine SOps.rd (v := .string s32) rfl (wantY (c := (x11 != (-1))) rfl rfl rfl dc13) (fun w hw => ev_load1 rfl (fun _ => by kernel_rfl) (p := (b4, 1)) rfl c33 w hw) ?_
        refine SOps.val (v := .bool (!decide (s32 = ByteArray.empty))) rfl (wantY (c := (x11 != (-1))) rfl rfl rfl dc13) (fun w => ev_neS rfl rfl rfl w) ?_
        refine SOps.val (v := .bool (!decide (s32 = ByteArray.empty))) rfl (wantN rfl) (fun w => ev_pickF (v := .bool (!decide (s32 = ByteArray.empty))) rfl (t := (x11 != (-1))) rfl dc13 rfl w) ?_
        refine SOps.nil ?_
        by_cases c34 : (s32 = ByteArray.empty)
        · replace h := h.1 c34
          have dc34 : (decide (s32 = ByteArray.empty)) = true := (decide_eq_true c34)
          refine SW.cond_f (t := !decide (s32 = ByteArray.empty)) rfl (not_t dc34) ?_
          refine SW.skip ?_
          refine SW.seq ?_
          refine SW.region ?_
          refine SOps.val (v := errV none) rfl (wantN rfl) (fun _ => by kernel_rfl) ?_
          refine SOps.nil ?_
          obtain ⟨Hr, hr, h⟩ := h
          exact SW.ret (retQ.mk (errV none) (res1 rfl rfl) hr ⟨none, rfl, h⟩)
        · replace h := h.2 c34
          have dc34 : (decide (s32 = ByteArray.empty)) = false := (decide_eq_false c34)
          refine SW.cond_t (t := !decide (s32 = ByteArray.empty)) rfl (not_f dc34) ?_
          refine SW.seq ?_
          obtain ⟨x35, s36, c37, h⟩ := h
          refine SW.drawA [.val (pv (some (b6, o7))), .val (pv (some (b6, o7))), .val (pv (some (b6, (o7 + 2)))), .val (.agg #[.int .i64 x35, .string s36])] (by kernel_rfl) (by kernel_rfl) (And.intro ?_ (And.intro ?_ (And.intro ?_ (And.intro ?_ (trivial))))) ?_
          · clear h
            intro fr' T' H' hle hs hA
            have a0 : fr' 0 = pv (some (b6, o7)) := hs 0 (by kernel_rfl)
            obtain ⟨g', hg'⟩ : ∃ g' : Fr, fr' = g'.upds [(0, pv (some (b6, o7)))] := ⟨_, Fr.upds_self _ _ ⟨a0, trivial⟩⟩
            subst hg'
            exact SA.val (v := pv (some (b6, o7))) rfl (wantN rfl) (fun _ => by kernel_rfl)
          · clear h
            intro fr' T' H' hle hs hA
            have a21 : fr' 21 = pv (some (b6, o7)) := hA 0 (by kernel_rfl)
            obtain ⟨g', hg'⟩ : ∃ g' : Fr, fr' = g'.upds [(21, pv (some (b6, o7)))] := ⟨_, Fr.upds_self _ _ ⟨a21, trivial⟩⟩
            subst hg'
            exact SA.val (v := pv (some (b6, o7))) rfl (wantN rfl) (fun _ => by kernel_rfl)
          · clear h
            intro fr' T' H' hle hs hA
            have a22 : fr' 22 = pv (some (b6, o7)) := hA 1 (by kernel_rfl)
            obtain ⟨g', hg'⟩ : ∃ g' : Fr, fr' = g'.upds [(22, pv (some (b6, o7)))] := ⟨_, Fr.upds_self _ _ ⟨a22, trivial⟩⟩
            subst hg'
            exact SA.val (v := pv (some (b6, (o7 + 2)))) rfl (wantN rfl) (fun _ => by kernel_rfl)
          · clear h
            intro fr' T' H' hle hs hA
            have a3 : fr' 3 = pv (some (b4, 0)) := hs 3 (by kernel_rfl)
            obtain ⟨g', hg'⟩ : ∃ g' : Fr, fr' = g'.upds [(3, pv (some (b4, 0)))] := ⟨_, Fr.upds_self _ _ ⟨a3, trivial⟩⟩
            subst hg'
            exact SA.rd hle (v := .agg #[.int .i64 x35, .string s36]) rfl (wantN rfl) (fun w hw => ev_loadN rfl (fun _ => by kernel_rfl) (size := 2) (by kernel_rfl) (p := (b4, 0)) rfl rfl c37 w hw)
          · intro fr' T' H' hle hs hA
            have a0 : fr' 0 = pv (some (b6, o7)) := hs 0 (by kernel_rfl)
            have a3 : fr' 3 = pv (some (b4, 0)) := hs 3 (by kernel_rfl)
            have a23 : fr' 23 = pv (some (b6, (o7 + 2))) := hA 2 (Nat.le_of_ble_eq_true rfl)
            have a24 : fr' 24 = (.agg #[.int .i64 x35, .string s36] : Value) := hA 3 (Nat.le_of_ble_eq_true rfl)
            obtain ⟨g', hg'⟩ : ∃ g' : Fr, fr' = g'.upds [(0, pv (some (b6, o7))), (3, pv (some (b4, 0))), (23, pv (some (b6, (o7 + 2)))), (24, (.agg #[.int .i64 x35, .string s36] : Value))] := ⟨_, Fr.upds_self _ _ ⟨a0, a3, a23, a24, trivial⟩⟩
            subst hg'
            refine SOps.forget (H9) hle ?_
            clear hle hs hA
            refine SOps.enter rfl (wantN rfl) (fun _ => by kernel_rfl) (disk_content_put.sound F (some (b6, (o7 + 2))) x35 s36 H9 _ h) ?_
            clear h
            rintro v H39 ⟨rfl, h⟩
            refine SOps.nil ?_
            obtain ⟨l40, c41, h⟩ := h
            obtain ⟨x42, s43, c44, h⟩ := h
            refine SW.drawE [0] [.val (pv (some (b6, o7))), .val (pv (some (b6, o7))), .val (pv (some (b6, o7))), .val (pv (some (b6, (o7 + 6)))), .val (sv l40), .val (.agg #[.int .i64 x42, .string s43]), .fresh 6 (fun b c => sv ⟨some (b, 0), 1, 1⟩) (fun c => (⟨[.int .i64 x42, .string s43], 78, false, 2⟩ : AO)) (fun _ => True)] (by kernel_rfl) (by kernel_rfl) (by kernel_rfl) ⟨⟨_, _, rfl, rfl, by kernel_rfl, ?_⟩, trivial⟩ (And.intro ?_ (And.intro ?_ (And.intro ?_ (And.intro ?_ (And.intro ?_ (And.intro ?_ (And.intro ?_ (trivial)))))))) ?_
            · clear h
              intro fr' T' H' hle hs hA
              have a0 : fr' 0 = pv (some (b6, o7)) := hs 0 (by kernel_rfl)
              obtain ⟨g', hg'⟩ : ∃ g' : Fr, fr' = g'.upds [(0, pv (some (b6, o7)))] := ⟨_, Fr.upds_self _ _ ⟨a0, trivial⟩⟩
              subst hg'
              exact ⟨wantN rfl, (fun _ => by kernel_rfl)⟩
            · clear h
              intro fr' T' H' hle hs hA
              have a0 : fr' 0 = pv (some (b6, o7)) := hs 0 (by kernel_rfl)
              obtain ⟨g', hg'⟩ : ∃ g' : Fr, fr' = g'.upds [(0, pv (some (b6, o7)))] := ⟨_, Fr.upds_self _ _ ⟨a0, trivial⟩⟩
              subst hg'
              exact SA.val (v := pv (some (b6, o7))) rfl (wantN rfl) (fun _ => by kernel_rfl)
            · clear h
              intro fr' T' H' hle hs hA
              have a0 : fr' 0 = pv (some (b6, o7)) := hs 0 (by kernel_rfl)
              obtain ⟨g', hg'⟩ : ∃ g' : Fr, fr' = g'.upds [(0, pv (some (b6, o7)))] := ⟨_, Fr.upds_self _ _ ⟨a0, trivial⟩⟩
              subst hg'
              exact SA.val (v := pv (some (b6, o7))) rfl (wantN rfl) (fun _ => by kernel_rfl)
            · clear h
              intro fr' T' H' hle hs hA
              have a27 : fr' 27 = pv (some (b6, o7)) := hA 1 (by kernel_rfl)
              obtain ⟨g', hg'⟩ : ∃ g' : Fr, fr' = g'.upds [(27, pv (some (b6, o7)))] := ⟨_, Fr.upds_self _ _ ⟨a27, trivial⟩⟩
              subst hg'
              exact SA.val (v := pv (some (b6, o7))) rfl (wantN rfl) (fun _ => by kernel_rfl)
            · clear h
              intro fr' T' H' hle hs hA
              have a28 : fr' 28 = pv (some (b6, o7)) := hA 2 (by kernel_rfl)
              obtain ⟨g', hg'⟩ : ∃ g' : Fr, fr' = g'.upds [(28, pv (some (b6, o7)))] := ⟨_, Fr.upds_self _ _ ⟨a28, trivial⟩⟩
              subst hg'
              exact SA.val (v := pv (some (b6, (o7 + 6)))) rfl (wantN rfl) (fun _ => by kernel_rfl)
            · clear h
              intro fr' T' H' hle hs hA
              have a29 : fr' 29 = pv (some (b6, (o7 + 6))) := hA 3 (by kernel_rfl)
              obtain ⟨g', hg'⟩ : ∃ g' : Fr, fr' = g'.upds [(29, pv (some (b6, (o7 + 6))))] := ⟨_, Fr.upds_self _ _ ⟨a29, trivial⟩⟩
              subst hg'
              exact SA.rd hle (v := sv l40) rfl (wantN rfl) (fun w hw => ev_load1 rfl (fun _ => by kernel_rfl) (p := (b6, (o7 + 6))) rfl c41 w hw)
            · clear h
              intro fr' T' H' hle hs hA
              have a3 : fr' 3 = pv (some (b4, 0)) := hs 3 (by kernel_rfl)
              obtain ⟨g', hg'⟩ : ∃ g' : Fr, fr' = g'.upds [(3, pv (some (b4, 0)))] := ⟨_, Fr.upds_self _ _ ⟨a3, trivial⟩⟩
              subst hg'
              exact SA.rd hle (v := .agg #[.int .i64 x42, .string s43]) rfl (wantN rfl) (fun w hw => ev_loadN rfl (fun _ => by kernel_rfl) (size := 2) (by kernel_rfl) (p := (b4, 0)) rfl rfl c44 w hw)
            · clear h
              intro fr' T' H' hle hs hA
              have a31 : fr' 31 = (.agg #[.int .i64 x42, .string s43] : Value) := hA 5 (by kernel_rfl)
              obtain ⟨g', hg'⟩ : ∃ g' : Fr, fr' = g'.upds [(31, (.agg #[.int .i64 x42, .string s43] : Value))] := ⟨_, Fr.upds_self _ _ ⟨a31, trivial⟩⟩
              subst hg'
              exact SA.fresh hle (fun h => SOps.lit (E := 78) (cs := #[.int .i64 x42, .string s43]) rfl rfl (wantN rfl) (fun _ => by kernel_rfl) (fun b c => h b 0 c trivial))
            · intro fr' T' H' hle hs hA
              have a26 : fr' 26 = pv (some (b6, o7)) := hA 0 (Nat.le_of_ble_eq_true rfl)
              have a30 : fr' 30 = sv l40 := hA 4 (Nat.le_of_ble_eq_true rfl)
              obtain ⟨b45, n46, a32, nb45, kb45, tb45, ob45⟩ := hA 6 (Nat.le_of_ble_eq_true rfl)
              obtain ⟨g', hg'⟩ : ∃ g' : Fr, fr' = g'.upds [(26, pv (some (b6, o7))), (30, sv l40), (32, sv (⟨some (b45, 0), 1, 1⟩ : Sl))] := ⟨_, Fr.upds_self _ _ ⟨a26, a30, a32, trivial⟩⟩
              subst hg'
              refine SOps.forget (SH.upd H39 b45 (⟨[.int .i64 x42, .string s43], 78, false, 2⟩ : AO)) (SH.le.upd_in hle kb45) ?_
              replace h := h b45 nb45
              clear hle hs hA
              obtain ⟨w51, c52, h⟩ := h
              refine SOps.append (z := .agg #[.int .i64 0, .string ByteArray.empty]) (size := 2) (bytes := 24) rfl rfl (wantN rfl) Tryd.underlying73 (by kernel_rfl) rfl rfl rfl (.inl ⟨⟨_, Tryd.underlying73⟩, _, rfl, rfl, c52⟩) (AppendQ.mono h ?_)
              clear h
              intro l48 H49 h
              refine SOps.val (v := pv (some (b6, o7))) rfl (wantN rfl) (fun _ => by kernel_rfl) ?_
              refine SOps.val (v := pv (some (b6, (o7 + 6)))) rfl (wantN rfl) (fun _ => by kernel_rfl) ?_
              obtain ⟨c50, h⟩ := h
              refine SOps.storeL (p := (b6, (o7 + 6))) (v := sv l48) (cs := [sv l48]) rfl rfl (wantN rfl) (size := 1) (by kernel_rfl) rfl rfl rfl rfl (by simp [Value.oneCell', errV_one, pv, sv]) c50 ?_
              refine SOps.nil ?_
              refine SW.seq ?_
              refine SW.region ?_
              refine SOps.val (v := errV none) rfl (wantN rfl) (fun _ => by kernel_rfl) ?_
              refine SOps.nil ?_
              obtain ⟨Hr, hr, h⟩ := h
              exact SW.ret (retQ.mk (errV none) (res1 rfl rfl) hr ⟨none, rfl, h⟩)
    · replace h := h.2 v10 rfl
      refine SOps.val (v := .bool true) rfl (wantN rfl) (fun w => ev_errNe (e := some v10) rfl Tryd.underlying28 rfl rfl w) ?_
      refine SOps.nil ?_
      refine SW.cond_t (t := true) rfl rfl ?_
      refine SW.seq ?_
      refine SW.region ?_
      refine SOps.val (v := errV (some v10)) rfl (wantN rfl) (fun _ => by kernel_rfl) ?_
      refine SOps.val (v := errV (some v10)) rfl (wantN rfl) (fun _ => by kernel_rfl) ?_
      refine SOps.nil ?_
      obtain ⟨Hr, hr, h⟩ := h
      exact SW.ret (retQ.mk (errV (some v10)) (res1 rfl rfl) hr ⟨some v10, rfl, h⟩)

/-! ### (*lading/disk.Disk).Append: function 13 -/
def disk_Disk_Append.wp (F : Nat) (p1 : Option (Nat × Nat)) (s2 : ByteArray) (H : SH) (K : Option EV → SH → Prop) : Prop :=
  disk_Disk_bars.wp F p1 H (fun e3 H4 =>
    (e3 = none →
      disk_Disk_does.wp F p1 (-1) s2 H4 (fun e6 H7 =>
        ∃ Hr, SH.le Hr H7 ∧ K e6 Hr
      )
    ) ∧ (∀ v5, e3 = some v5 →
      ∃ Hr, SH.le Hr H4 ∧ K (some v5) Hr
    )
  )
set_option maxHeartbeats 8000000 in
theorem disk_Disk_Append.sound (F : Nat) (p1 : Option (Nat × Nat)) (s2 : ByteArray) (H : SH) (K : Option EV → SH → Prop) (h : disk_Disk_Append.wp F p1 s2 H K) : SCalls Tryd.prog 13 #[pv p1, .string s2] H (fun v H' => ∃ (e9 : Option EV), v = errV e9 ∧ K e9 H') := by
  unfold disk_Disk_Append.wp at h
  refine SCalls.body Tryd.func13 rfl (Nat.le_of_ble_eq_true rfl) ?_
  refine SW.seq ?_
  refine SW.region ?_
  refine SOps.val (v := errV none) rfl (wantN rfl) (fun _ => by kernel_rfl) ?_
  refine SOps.nil ?_
  refine SW.seq ?_
  refine SW.seq ?_
  refine SW.region ?_
  refine SOps.val (v := pv p1) rfl (wantN rfl) (fun _ => by kernel_rfl) ?_
  refine SOps.enter rfl (wantN rfl) (fun _ => by kernel_rfl) (disk_Disk_bars.sound F p1 H _ h) ?_
  clear h
  rintro v H4 ⟨e3, rfl, h⟩
  refine SOps.val (v := errV e3) rfl (wantN rfl) (fun _ => by kernel_rfl) ?_
  refine SOps.nil ?_
  refine SW.seq ?_
  refine SW.region ?_
  refine SOps.val (v := errV e3) rfl (wantN rfl) (fun _ => by kernel_rfl) ?_
  rcases e3 with _ | v5
  · replace h := h.1 rfl
    refine SOps.val (v := .bool false) rfl (wantN rfl) (fun w => ev_errNe (e := none) rfl Tryd.underlying28 rfl rfl w) ?_
    refine SOps.nil ?_
    refine SW.cond_f (t := false) rfl rfl ?_
    refine SW.skip ?_
    refine SW.seq ?_
    refine SW.region ?_
    refine SOps.val (v := pv p1) rfl (wantN rfl) (fun _ => by kernel_rfl) ?_
    refine SOps.val (v := .string s2) rfl (wantN rfl) (fun _ => by kernel_rfl) ?_
    refine SOps.val (v := .agg #[.int .i64 (-1), .string s2]) rfl (wantN rfl) (fun _ => by kernel_rfl) ?_
    refine SOps.enter rfl (wantN rfl) (fun _ => by kernel_rfl) (disk_Disk_does.sound F p1 (-1) s2 H4 _ h) ?_
    clear h
    rintro v H7 ⟨e6, rfl, h⟩
    refine SOps.val (v := errV e6) rfl (wantN rfl) (fun _ => by kernel_rfl) ?_
    refine SOps.nil ?_
    obtain ⟨Hr, hr, h⟩ := h
    exact SW.ret (retQ.mk (errV e6) (res1 rfl rfl) hr ⟨e6, rfl, h⟩)
  · replace h := h.2 v5 rfl
    refine SOps.val (v := .bool true) rfl (wantN rfl) (fun w => ev_errNe (e := some v5) rfl Tryd.underlying28 rfl rfl w) ?_
    refine SOps.nil ?_
    refine SW.cond_t (t := true) rfl rfl ?_
    refine SW.seq ?_
    refine SW.region ?_
    refine SOps.val (v := errV (some v5)) rfl (wantN rfl) (fun _ => by kernel_rfl) ?_
    refine SOps.val (v := errV (some v5)) rfl (wantN rfl) (fun _ => by kernel_rfl) ?_
    refine SOps.nil ?_
    obtain ⟨Hr, hr, h⟩ := h
    exact SW.ret (retQ.mk (errV (some v5)) (res1 rfl rfl) hr ⟨some v5, rfl, h⟩)

/-! ### (*lading/disk.Disk).Log: function 16 -/
def disk_Disk_Log.wp (F : Nat) (p1 : Option (Nat × Nat)) (H : SH) (K : ByteArray → Option EV → SH → Prop) : Prop :=
  disk_Disk_bars.wp F p1 H (fun e2 H3 =>
    (e2 = none →
      (p1 = none →
        False
      ) ∧ (∀ b5 o6, p1 = some (b5, o6) →
        ∃ (s7 : ByteArray),
        SH.has H3 (b5, (o6 + 2)) (.string s7) ∧
        ∃ Hr, SH.le Hr H3 ∧ K s7 none Hr
      )
    ) ∧ (∀ v4, e2 = some v4 →
      ∃ Hr, SH.le Hr H3 ∧ K ByteArray.empty (some v4) Hr
    )
  )
set_option maxHeartbeats 8000000 in
theorem disk_Disk_Log.sound (F : Nat) (p1 : Option (Nat × Nat)) (H : SH) (K : ByteArray → Option EV → SH → Prop) (h : disk_Disk_Log.wp F p1 H K) : SCalls Tryd.prog 16 #[pv p1] H (fun v H' => ∃ (s11 : ByteArray) (e12 : Option EV), v = .tuple #[.string s11, errV e12] ∧ K s11 e12 H') := by
  unfold disk_Disk_Log.wp at h
  refine SCalls.body Tryd.func16 rfl (Nat.le_of_ble_eq_true rfl) ?_
  refine SW.seq ?_
  refine SW.region ?_
  refine SOps.val (v := .string ByteArray.empty) rfl (wantN rfl) (fun _ => by kernel_rfl) ?_
  refine SOps.val (v := errV none) rfl (wantN rfl) (fun _ => by kernel_rfl) ?_
  refine SOps.nil ?_
  refine SW.seq ?_
  refine SW.seq ?_
  refine SW.region ?_
  refine SOps.val (v := pv p1) rfl (wantN rfl) (fun _ => by kernel_rfl) ?_
  refine SOps.enter rfl (wantN rfl) (fun _ => by kernel_rfl) (disk_Disk_bars.sound F p1 H _ h) ?_
  clear h
  rintro v H3 ⟨e2, rfl, h⟩
  refine SOps.val (v := errV e2) rfl (wantN rfl) (fun _ => by kernel_rfl) ?_
  refine SOps.nil ?_
  refine SW.seq ?_
  refine SW.region ?_
  refine SOps.val (v := errV e2) rfl (wantN rfl) (fun _ => by kernel_rfl) ?_
  rcases e2 with _ | v4
  · replace h := h.1 rfl
    refine SOps.val (v := .bool false) rfl (wantN rfl) (fun w => ev_errNe (e := none) rfl Tryd.underlying28 rfl rfl w) ?_
    refine SOps.nil ?_
    refine SW.cond_f (t := false) rfl rfl ?_
    refine SW.skip ?_
    refine SW.seq ?_
    refine SW.region ?_
    refine SOps.val (v := pv p1) rfl (wantN rfl) (fun _ => by kernel_rfl) ?_
    rcases p1 with _ | ⟨b5, o6⟩
    · replace h := h.1 rfl
      exact h.elim
    · replace h := h.2 b5 o6 rfl
      refine SOps.val (v := pv (some (b5, o6))) rfl (wantN rfl) (fun _ => by kernel_rfl) ?_
      refine SOps.val (v := pv (some (b5, (o6 + 2)))) rfl (wantN rfl) (fun _ => by kernel_rfl) ?_
      refine SOps.val (v := pv (some (b5, (o6 + 2)))) rfl (wantN rfl) (fun _ => by kernel_rfl) ?_
      obtain ⟨s7, c8, h⟩ := h
      refine SOps.rd (v := .string s7) rfl (wantN rfl) (fun w hw => ev_load1 rfl (fun _ => by kernel_rfl) (p := (b5, (o6 + 2))) rfl c8 w hw) ?_
      refine SOps.val (v := .string s7) rfl (wantN rfl) (fun _ => by kernel_rfl) ?_
      refine SOps.val (v := errV none) rfl (wantN rfl) (fun _ => by kernel_rfl) ?_
      refine SOps.nil ?_
      obtain ⟨Hr, hr, h⟩ := h
      exact SW.ret (retQ.mk (.tuple #[.string s7, errV none]) (res2 rfl rfl rfl) hr ⟨s7, none, rfl, h⟩)
  · replace h := h.2 v4 rfl
    refine SOps.val (v := .bool true) rfl (wantN rfl) (fun w => ev_errNe (e := some v4) rfl Tryd.underlying28 rfl rfl w) ?_
    refine SOps.nil ?_
    refine SW.cond_t (t := true) rfl rfl ?_
    refine SW.seq ?_
    refine SW.region ?_
    refine SOps.val (v := errV (some v4)) rfl (wantN rfl) (fun _ => by kernel_rfl) ?_
    refine SOps.val (v := .string ByteArray.empty) rfl (wantN rfl) (fun _ => by kernel_rfl) ?_
    refine SOps.val (v := errV (some v4)) rfl (wantN rfl) (fun _ => by kernel_rfl) ?_
    refine SOps.nil ?_
    obtain ⟨Hr, hr, h⟩ := h
    exact SW.ret (retQ.mk (.tuple #[.string ByteArray.empty, errV (some v4)]) (res2 rfl rfl rfl) hr ⟨ByteArray.empty, some v4, rfl, h⟩)

/-! ### (*lading/disk.content).torn: function 46 -/
def disk_content_torn.j1 (F : Nat) (K : Int → ByteArray → SH → Prop) (b40 : Nat) (b41 : Nat) (s42 : ByteArray) (H : SH) : Prop :=
  ∃ (x43 : Int),
  SH.has H (b40, 0) (.int .i64 x43) ∧
  SH.wrs H (b41, 0) 2 ∧
  ∃ (x46 : Int) (s47 : ByteArray),
  SH.row (SH.setl H (b41, 0) [.int .i64 x43, .string s42]) (some (b41, 0)) [.int .i64 x46, .string s47] ∧
  ∃ Hr, SH.le Hr (SH.setl H (b41, 0) [.int .i64 x43, .string s42]) ∧ K x46 s47 Hr
def disk_content_torn.wp (F : Nat) (p1 : Option (Nat × Nat)) (x2 : Int) (s3 : ByteArray) (x4 : Int) (H : SH) (K : Int → ByteArray → SH → Prop) : Prop :=
  ∀ b5, H b5 = none →
  ∀ b7, (SH.upd H b5 ⟨[.int .i64 x2, .string s3], 78, false, 2⟩) b7 = none →
  ∃ (s9 : ByteArray),
  SH.has (SH.upd (SH.upd H b5 ⟨[.int .i64 x2, .string s3], 78, false, 2⟩) b7 ⟨[.int .i64 0, .string ByteArray.empty], 78, false, 2⟩) (b5, 1) (.string s9) ∧
  ∃ (s11 : ByteArray),
  SH.has (SH.upd (SH.upd H b5 ⟨[.int .i64 x2, .string s3], 78, false, 2⟩) b7 ⟨[.int .i64 0, .string ByteArray.empty], 78, false, 2⟩) (b5, 1) (.string s11) ∧
  ∃ (s13 : ByteArray),
  SH.has (SH.upd (SH.upd H b5 ⟨[.int .i64 x2, .string s3], 78, false, 2⟩) b7 ⟨[.int .i64 0, .string ByteArray.empty], 78, false, 2⟩) (b5, 1) (.string s13) ∧
  0 ≤ (0 : Int) ∧
  (0 : Int) ≤ (w64 ((s9.size : Int) - (imin (imax x4 0) (s11.size : Int)))) ∧
  (w64 ((s9.size : Int) - (imin (imax x4 0) (s11.size : Int)))) ≤ (s13.size : Int) ∧
  ∃ (x18 : Int),
  SH.has (SH.upd (SH.upd H b5 ⟨[.int .i64 x2, .string s3], 78, false, 2⟩) b7 ⟨[.int .i64 0, .string ByteArray.empty], 78, false, 2⟩) (b5, 0) (.int .i64 x18) ∧
  (x18 ≠ (-1) →
    ∃ (s21 : ByteArray),
    SH.has (SH.upd (SH.upd H b5 ⟨[.int .i64 x2, .string s3], 78, false, 2⟩) b7 ⟨[.int .i64 0, .string ByteArray.empty], 78, false, 2⟩) (b5, 1) (.string s21) ∧
    ((w64 ((s9.size : Int) - (imin (imax x4 0) (s11.size : Int)))) < (s21.size : Int) →
      (p1 = none →
        False
      ) ∧ (∀ b24 o25, p1 = some (b24, o25) →
        ∃ (l26 : Sl),
        SH.has (SH.upd (SH.upd H b5 ⟨[.int .i64 x2, .string s3], 78, false, 2⟩) b7 ⟨[.int .i64 0, .string ByteArray.empty], 78, false, 2⟩) (b24, (o25 + 1)) (sv l26) ∧
        ∃ (x28 : Int),
        SH.has (SH.upd (SH.upd H b5 ⟨[.int .i64 x2, .string s3], 78, false, 2⟩) b7 ⟨[.int .i64 0, .string ByteArray.empty], 78, false, 2⟩) (b5, 0) (.int .i64 x28) ∧
        ∃ p30, l26.a = some p30 ∧ 0 ≤ x28 ∧ x28 < (l26.len : Int) ∧
        ∃ (s34 : ByteArray),
        SH.has (SH.upd (SH.upd H b5 ⟨[.int .i64 x2, .string s3], 78, false, 2⟩) b7 ⟨[.int .i64 0, .string ByteArray.empty], 78, false, 2⟩) (p30.1, (p30.2 + x28.toNat * 1)) (.string s34) ∧
        0 ≤ (imin (w64 ((s9.size : Int) - (imin (imax x4 0) (s11.size : Int)))) (s34.size : Int)) ∧
        (imin (w64 ((s9.size : Int) - (imin (imax x4 0) (s11.size : Int)))) (s34.size : Int)) ≤ (s34.size : Int) ∧
        (s34.size : Int) ≤ (s34.size : Int) ∧
        (s13.extract (0 : Int).toNat (w64 ((s9.size : Int) - (imin (imax x4 0) (s11.size : Int)))).toNat).size + (s34.extract (imin (w64 ((s9.size : Int) - (imin (imax x4 0) (s11.size : Int)))) (s34.size : Int)).toNat (s34.size : Int).toNat).size ≤ 9223372036854775807 ∧
        disk_content_torn.j1 F K b5 b7 ((s13.extract (0 : Int).toNat (w64 ((s9.size : Int) - (imin (imax x4 0) (s11.size : Int)))).toNat) ++ (s34.extract (imin (w64 ((s9.size : Int) - (imin (imax x4 0) (s11.size : Int)))) (s34.size : Int)).toNat (s34.size : Int).toNat)) (SH.upd (SH.upd H b5 ⟨[.int .i64 x2, .string s3], 78, false, 2⟩) b7 ⟨[.int .i64 0, .string ByteArray.empty], 78, false, 2⟩)
      )
    ) ∧ (¬ ((w64 ((s9.size : Int) - (imin (imax x4 0) (s11.size : Int)))) < (s21.size : Int)) →
      disk_content_torn.j1 F K b5 b7 (s13.extract (0 : Int).toNat (w64 ((s9.size : Int) - (imin (imax x4 0) (s11.size : Int)))).toNat) (SH.upd (SH.upd H b5 ⟨[.int .i64 x2, .string s3], 78, false, 2⟩) b7 ⟨[.int .i64 0, .string ByteArray.empty], 78, false, 2⟩)
    )
  ) ∧ (¬ (x18 ≠ (-1)) →
    disk_content_torn.j1 F K b5 b7 (s13.extract (0 : Int).toNat (w64 ((s9.size : Int) - (imin (imax x4 0) (s11.size : Int)))).toNat) (SH.upd (SH.upd H b5 ⟨[.int .i64 x2, .string s3], 78, false, 2⟩) b7 ⟨[.int .i64 0, .string ByteArray.empty], 78, false, 2⟩)
  )
set_option maxHeartbeats 8000000 in
theorem disk_content_torn.sound (F : Nat) (p1 : Option (Nat × Nat)) (x2 : Int) (s3 : ByteArray) (x4 : Int) (H : SH) (K : Int → ByteArray → SH → Prop) (h : disk_content_torn.wp F p1 x2 s3 x4 H K) : SCalls Tryd.prog 46 #[pv p1, .agg #[.int .i64 x2, .string s3], .int .i64 x4] H (fun v H' => ∃ (x53 : Int) (s54 : ByteArray), v = .agg #[.int .i64 x53, .string s54] ∧ K x53 s54 H') := by
  unfold disk_content_torn.wp at h
  refine SCalls.body Tryd.func46 rfl (Nat.le_of_ble_eq_true rfl) ?_
  refine SW.seq ?_
  refine SW.region ?_
  refine SOps.box rfl rfl (wantN rfl) (v := .agg #[.int .i64 x2, .string s3]) rfl (fun b5 c6 => ?_)
  replace h := h b5 c6
  refine SOps.alloc rfl rfl (wantN rfl) (z := .agg #[.int .i64 0, .string ByteArray.empty]) (by kernel_rfl) (fun b7 c8 => ?_)
  replace h := h b7 c8
  refine SOps.nil ?_
  refine SW.seq ?_
  refine SW.region ?_
  refine SOps.val (v := pv (some (b5, 1))) rfl (wantN rfl) (fun _ => by kernel_rfl) ?_
  obtain ⟨s9, c10, h⟩ := h
  refine SOps.rd (v := .string s9) rfl (wantN rfl) (fun w hw => ev_load1 rfl (fun _ => by kernel_rfl) (p := (b5, 1)) rfl c10 w hw) ?_
  refine SOps.val (v := .int .i64 (s9.size : Int)) rfl (wantN rfl) (fun _ => by kernel_rfl) ?_
  refine SOps.val (v := .int .i64 x4) rfl (wantN rfl) (fun _ => by kernel_rfl) ?_
  refine SOps.val (v := .int .i64 (imax x4 0)) rfl (wantN rfl) (fun _ => by kernel_rfl) ?_
  refine SOps.val (v := pv (some (b5, 1))) rfl (wantN rfl) (fun _ => by kernel_rfl) ?_
  obtain ⟨s11, c12, h⟩ := h
  refine SOps.rd (v := .string s11) rfl (wantN rfl) (fun w hw => ev_load1 rfl (fun _ => by kernel_rfl) (p := (b5, 1)) rfl c12 w hw) ?_
  refine SOps.val (v := .int .i64 (s11.size : Int)) rfl (wantN rfl) (fun _ => by kernel_rfl) ?_
  refine SOps.val (v := .int .i64 (imin (imax x4 0) (s11.size : Int))) rfl (wantN rfl) (fun _ => by kernel_rfl) ?_
  refine SOps.val (v := .int .i64 (w64 ((s9.size : Int) - (imin (imax x4 0) (s11.size : Int))))) rfl (wantN rfl) (fun _ => by kernel_rfl) ?_
  refine SOps.val (v := .int .i64 (w64 ((s9.size : Int) - (imin (imax x4 0) (s11.size : Int))))) rfl (wantN rfl) (fun _ => by kernel_rfl) ?_
  refine SOps.nil ?_
  refine SW.seq ?_
  refine SW.region ?_
  refine SOps.val (v := pv (some (b5, 1))) rfl (wantN rfl) (fun _ => by kernel_rfl) ?_
  obtain ⟨s13, c14, h⟩ := h
  refine SOps.rd (v := .string s13) rfl (wantN rfl) (fun w hw => ev_load1 rfl (fun _ => by kernel_rfl) (p := (b5, 1)) rfl c14 w hw) ?_
  refine SOps.val (v := .int .i64 (w64 ((s9.size : Int) - (imin (imax x4 0) (s11.size : Int))))) rfl (wantN rfl) (fun _ => by kernel_rfl) ?_
  obtain ⟨c15, c16, c17, h⟩ := h
  refine SOps.val (v := .string (s13.extract (0 : Int).toNat (w64 ((s9.size : Int) - (imin (imax x4 0) (s11.size : Int)))).toNat)) rfl (wantN rfl) (fun w => ev_subS (a := (0 : Int)) (b := (w64 ((s9.size : Int) - (imin (imax x4 0) (s11.size : Int))))) rfl Tryd.underlying9 rfl (Or.inl ⟨rfl, rfl⟩) (Or.inr ⟨_, rfl⟩) c15 c16 c17 w) ?_
  refine SOps.val (v := .string (s13.extract (0 : Int).toNat (w64 ((s9.size : Int) - (imin (imax x4 0) (s11.size : Int)))).toNat)) rfl (wantN rfl) (fun _ => by kernel_rfl) ?_
  refine SOps.nil ?_
  refine SW.seqJ (fun fr H => ∃ (g : Fr) (b40 : Nat) (b41 : Nat) (s42 : ByteArray), fr = g.upds [(4, pv (some (b40, 0))), (6, pv (some (b41, 0))), (8, (.string s42 : Value))] ∧ disk_content_torn.j1 F K b40 b41 s42 H) ?_ ?_
  · clear h
    rintro fr H ⟨g, b40, b41, s42, rfl, h⟩
    unfold disk_content_torn.j1 at h
    refine SW.seq ?_
    refine SW.region ?_
    refine SOps.val (v := pv (some (b40, 0))) rfl (wantN rfl) (fun _ => by kernel_rfl) ?_
    obtain ⟨x43, c44, h⟩ := h
    refine SOps.rd (v := .int .i64 x43) rfl (wantN rfl) (fun w hw => ev_load1 rfl (fun _ => by kernel_rfl) (p := (b40, 0)) rfl c44 w hw) ?_
    refine SOps.val (v := .string s42) rfl (wantN rfl) (fun _ => by kernel_rfl) ?_
    refine SOps.val (v := .agg #[.int .i64 x43, .string s42]) rfl (wantN rfl) (fun _ => by kernel_rfl) ?_
    obtain ⟨c45, h⟩ := h
    refine SOps.storeL (p := (b41, 0)) (v := .agg #[.int .i64 x43, .string s42]) (cs := [.int .i64 x43, .string s42]) rfl rfl (wantN rfl) (size := 2) (by kernel_rfl) rfl rfl rfl rfl (by simp [Value.oneCell', errV_one, pv, sv]) c45 ?_
    refine SOps.nil ?_
    obtain ⟨x46, s47, c48, Hr, hr, h⟩ := h
    exact SW.ret (retQ.mkM (.agg #[.int .i64 x46, .string s47]) (resCN (size := 2) (p := (b41, 0)) (T := 78) rfl rfl (fun _ => by kernel_rfl) (by kernel_rfl) rfl c48) hr ⟨x46, s47, rfl, h⟩)
  · skip
    refine SW.seq ?_
    refine SW.region ?_
    refine SOps.val (v := pv (some (b5, 0))) rfl (wantN rfl) (fun _ => by kernel_rfl) ?_
    obtain ⟨x18, c19, h⟩ := h
    refine SOps.rd (v := .int .i64 x18) rfl (wantN rfl) (fun w hw => ev_load1 rfl (fun _ => by kernel_rfl) (p := (b5, 0)) rfl c19 w hw) ?_
    refine SOps.val (v := .bool (x18 != (-1))) rfl (wantN rfl) (fun _ => by kernel_rfl) ?_
    refine SOps.val (v := .bool (x18 != (-1))) rfl (wantN rfl) (fun _ => by kernel_rfl) ?_
    by_cases c20 : x18 ≠ (-1)
    · replace h := h.1 c20
      have dc20 : (x18 != (-1)) = true := (bne_iff_ne.mpr c20)
      refine SOps.val (v := .int .i64 (w64 ((s9.size : Int) - (imin (imax x4 0) (s11.size : Int))))) rfl (wantY (c := (x18 != (-1))) rfl rfl rfl dc20) (fun _ => by kernel_rfl) ?_
      refine SOps.val (v := pv (some (b5, 1))) rfl (wantY (c := (x18 != (-1))) rfl rfl rfl dc20) (fun _ => by kernel_rfl) ?_
      obtain ⟨s21, c22, h⟩ := h
      refine SOps.rd (v := .string s21) rfl (wantY (c := (x18 != (-1))) rfl rfl rfl dc20) (fun w hw => ev_load1 rfl (fun _ => by kernel_rfl) (p := (b5, 1)) rfl c22 w hw) ?_
      refine SOps.val (v := .int .i64 (s21.size : Int)) rfl (wantY (c := (x18 != (-1))) rfl rfl rfl dc20) (fun _ => by kernel_rfl) ?_
      refine SOps.val (v := .bool (decide ((w64 ((s9.size : Int) - (imin (imax x4 0) (s11.size : Int)))) < (s21.size : Int)))) rfl (wantY (c := (x18 != (-1))) rfl rfl rfl dc20) (fun _ => by kernel_rfl) ?_
      refine SOps.val (v := .bool (decide ((w64 ((s9.size : Int) - (imin (imax x4 0) (s11.size : Int)))) < (s21.size : Int)))) rfl (wantN rfl) (fun w => ev_pickT (v := .bool (decide ((w64 ((s9.size : Int) - (imin (imax x4 0) (s11.size : Int)))) < (s21.size : Int)))) rfl (t := (x18 != (-1))) rfl dc20 rfl w) ?_
      refine SOps.nil ?_
      by_cases c23 : (w64 ((s9.size : Int) - (imin (imax x4 0) (s11.size : Int)))) < (s21.size : Int)
      · replace h := h.1 c23
        have dc23 : (decide ((w64 ((s9.size : Int) - (imin (imax x4 0) (s11.size : Int)))) < (s21.size : Int))) = true := (decide_eq_true c23)
        refine SW.cond_t (t := decide ((w64 ((s9.size : Int) - (imin (imax x4 0) (s11.size : Int)))) < (s21.size : Int))) rfl dc23 ?_
        refine SW.seq ?_
        refine SW.draw (by kernel_rfl) (by kernel_rfl) ?_
        refine SQ.val (v := pv p1) rfl (wantN rfl) (fun _ => by kernel_rfl) ?_
        rcases p1 with _ | ⟨b24, o25⟩
        · replace h := h.1 rfl
          exact h.elim
        · replace h := h.2 b24 o25 rfl
          refine SQ.val (v := pv (some (b24, o25))) rfl (wantN rfl) (fun _ => by kernel_rfl) ?_
          refine SQ.val (v := pv (some (b24, (o25 + 1)))) rfl (wantN rfl) (fun _ => by kernel_rfl) ?_
          obtain ⟨l26, c27, h⟩ := h
          refine SQ.rd (v := sv l26) rfl (wantN rfl) (fun w hw => ev_load1 rfl (fun _ => by kernel_rfl) (p := (b24, (o25 + 1))) rfl c27 w hw) ?_
          refine SQ.val (v := pv (some (b5, 0))) rfl (wantN rfl) (fun _ => by kernel_rfl) ?_
          obtain ⟨x28, c29, h⟩ := h
          refine SQ.rd (v := .int .i64 x28) rfl (wantN rfl) (fun w hw => ev_load1 rfl (fun _ => by kernel_rfl) (p := (b5, 0)) rfl c29 w hw) ?_
          obtain ⟨p30, c31, c32, c33, h⟩ := h
          refine SQ.val (v := pv (some (p30.1, (p30.2 + x28.toNat * 1)))) rfl (wantN rfl) (fun w => ev_iaddr rfl Tryd.underlying55 (size := 1) (by kernel_rfl) rfl rfl c31 c32 c33 w) ?_
          obtain ⟨s34, c35, h⟩ := h
          refine SQ.rd (v := .string s34) rfl (wantN rfl) (fun w hw => ev_load1 rfl (fun _ => by kernel_rfl) (p := (p30.1, (p30.2 + x28.toNat * 1))) rfl c35 w hw) ?_
          refine SQ.val (v := .string s34) rfl (wantN rfl) (fun _ => by kernel_rfl) ?_
          refine SQ.nil ?_
          refine SW.region ?_
          refine SOps.val (v := .string (s13.extract (0 : Int).toNat (w64 ((s9.size : Int) - (imin (imax x4 0) (s11.size : Int)))).toNat)) rfl (wantN rfl) (fun _ => by kernel_rfl) ?_
          refine SOps.val (v := .string s34) rfl (wantN rfl) (fun _ => by kernel_rfl) ?_
          refine SOps.val (v := .int .i64 (w64 ((s9.size : Int) - (imin (imax x4 0) (s11.size : Int))))) rfl (wantN rfl) (fun _ => by kernel_rfl) ?_
          refine SOps.val (v := .string s34) rfl (wantN rfl) (fun _ => by kernel_rfl) ?_
          refine SOps.val (v := .int .i64 (s34.size : Int)) rfl (wantN rfl) (fun _ => by kernel_rfl) ?_
          refine SOps.val (v := .int .i64 (imin (w64 ((s9.size : Int) - (imin (imax x4 0) (s11.size : Int)))) (s34.size : Int))) rfl (wantN rfl) (fun _ => by kernel_rfl) ?_
          obtain ⟨c36, c37, c38, h⟩ := h
          refine SOps.val (v := .string (s34.extract (imin (w64 ((s9.size : Int) - (imin (imax x4 0) (s11.size : Int)))) (s34.size : Int)).toNat (s34.size : Int).toNat)) rfl (wantN rfl) (fun w => ev_subS (a := (imin (w64 ((s9.size : Int) - (imin (imax x4 0) (s11.size : Int)))) (s34.size : Int))) (b := (s34.size : Int)) rfl Tryd.underlying9 rfl (Or.inr ⟨_, rfl⟩) (Or.inl ⟨rfl, rfl⟩) c36 c37 c38 w) ?_
          obtain ⟨c39, h⟩ := h
          refine SOps.val (v := .string ((s13.extract (0 : Int).toNat (w64 ((s9.size : Int) - (imin (imax x4 0) (s11.size : Int)))).toNat) ++ (s34.extract (imin (w64 ((s9.size : Int) - (imin (imax x4 0) (s11.size : Int)))) (s34.size : Int)).toNat (s34.size : Int).toNat))) rfl (wantN rfl) (fun w => ev_cat rfl rfl rfl c39 w) ?_
          refine SOps.val (v := .string ((s13.extract (0 : Int).toNat (w64 ((s9.size : Int) - (imin (imax x4 0) (s11.size : Int)))).toNat) ++ (s34.extract (imin (w64 ((s9.size : Int) - (imin (imax x4 0) (s11.size : Int)))) (s34.size : Int)).toNat (s34.size : Int).toNat))) rfl (wantN rfl) (fun _ => by kernel_rfl) ?_
          refine SOps.nil ?_
          exact ⟨_, b5, b7, (s13.extract (0 : Int).toNat (w64 ((s9.size : Int) - (imin (imax x4 0) (s11.size : Int)))).toNat) ++ (s34.extract (imin (w64 ((s9.size : Int) - (imin (imax x4 0) (s11.size : Int)))) (s34.size : Int)).toNat (s34.size : Int).toNat), Fr.upds_self _ _ ⟨rfl, rfl, rfl, trivial⟩, h⟩
      · replace h := h.2 c23
        have dc23 : (decide ((w64 ((s9.size : Int) - (imin (imax x4 0) (s11.size : Int)))) < (s21.size : Int))) = false := (decide_eq_false c23)
        refine SW.cond_f (t := decide ((w64 ((s9.size : Int) - (imin (imax x4 0) (s11.size : Int)))) < (s21.size : Int))) rfl dc23 ?_
        refine SW.skip ?_
        exact ⟨_, b5, b7, s13.extract (0 : Int).toNat (w64 ((s9.size : Int) - (imin (imax x4 0) (s11.size : Int)))).toNat, Fr.upds_self _ _ ⟨rfl, rfl, rfl, trivial⟩, h⟩
    · replace h := h.2 c20
      have dc20 : (x18 != (-1)) = false := (by simpa using c20)
      refine SOps.off rfl (wantX (c := (x18 != (-1))) rfl rfl rfl dc20) ?_
      refine SOps.off rfl (wantX (c := (x18 != (-1))) rfl rfl rfl dc20) ?_
      refine SOps.off rfl (wantX (c := (x18 != (-1))) rfl rfl rfl dc20) ?_
      refine SOps.off rfl (wantX (c := (x18 != (-1))) rfl rfl rfl dc20) ?_
      refine SOps.off rfl (wantX (c := (x18 != (-1))) rfl rfl rfl dc20) ?_
      refine SOps.val (v := .bool false) rfl (wantN rfl) (fun w => ev_pickF (v := .bool false) rfl (t := (x18 != (-1))) rfl dc20 rfl w) ?_
      refine SOps.nil ?_
      refine SW.cond_f (t := false) rfl rfl ?_
      refine SW.skip ?_
      exact ⟨_, b5, b7, s13.extract (0 : Int).toNat (w64 ((s9.size : Int) - (imin (imax x4 0) (s11.size : Int)))).toNat, Fr.upds_self _ _ ⟨rfl, rfl, rfl, trivial⟩, h⟩

/-! ### (*lading/disk.Disk).Crash: function 17 -/
def disk_Disk_Crash.j1 (F : Nat) (K : SH → Prop) (R1 : Nat → Nat → Nat → Sl → ByteArray → Sl → Int → Int → SH → Prop) (b132 : Nat) (o133 : Nat) (b134 : Nat) (l135 : Sl) (s136 : ByteArray) (l137 : Sl) (x138 : Int) (x139 : Int) (H : SH) : Prop :=
  R1 b132 o133 b134 l135 s136 l137 x138 (w64 (x139 + 1)) H
def disk_Disk_Crash.j2 (F : Nat) (K : SH → Prop) (R1 : Nat → Nat → Nat → Sl → ByteArray → Sl → Int → Int → SH → Prop) (b124 : Nat) (o125 : Nat) (b126 : Nat) (l127 : Sl) (s128 : ByteArray) (l129 : Sl) (x130 : Int) (x131 : Int) (H : SH) : Prop :=
  disk_Disk_Crash.j1 F K R1 b124 o125 b126 l127 s128 l129 x130 x131 H
def disk_Disk_Crash.j3 (F : Nat) (K : SH → Prop) (R1 : Nat → Nat → Nat → Sl → ByteArray → Sl → Int → Int → SH → Prop) (b69 : Nat) (o70 : Nat) (b71 : Nat) (l72 : Sl) (s73 : ByteArray) (l74 : Sl) (x75 : Int) (x76 : Int) (H : SH) : Prop :=
  disk_Disk_Crash.j2 F K R1 b69 o70 b71 l72 s73 l74 x75 x76 H
def disk_Disk_Crash.j6 (F : Nat) (K : SH → Prop) (R1 : Nat → Nat → Nat → Sl → ByteArray → Sl → Int → Int → SH → Prop) (b110 : Nat) (o111 : Nat) (b112 : Nat) (l113 : Sl) (s114 : ByteArray) (b115 : Nat) (l116 : Sl) (x117 : Int) (x118 : Int) (H : SH) : Prop :=
  ∃ (x119 : Int) (s120 : ByteArray),
  SH.row H (some (b115, 0)) [.int .i64 x119, .string s120] ∧
  disk_content_put.wp F (some (b110, (o111 + 4))) x119 s120 H (fun H123 =>
    disk_Disk_Crash.j2 F K R1 b110 o111 b112 l113 s114 l116 x117 x118 H123
  )
def disk_Disk_Crash.j5 (F : Nat) (K : SH → Prop) (R1 : Nat → Nat → Nat → Sl → ByteArray → Sl → Int → Int → SH → Prop) (b84 : Nat) (o85 : Nat) (b86 : Nat) (l87 : Sl) (s88 : ByteArray) (b89 : Nat) (l90 : Sl) (x91 : Int) (x92 : Int) (H : SH) : Prop :=
  ∃ (x103 : Int),
  SH.has H (b89, 0) (.int .i64 x103) ∧
  (x103 = (-1) →
    ∃ (s106 : ByteArray),
    SH.has H (b89, 1) (.string s106) ∧
    s88.size + s106.size ≤ 9223372036854775807 ∧
    SH.wrs H (b89, 1) 1 ∧
    disk_Disk_Crash.j6 F K R1 b84 o85 b86 l87 ByteArray.empty b89 l90 x91 x92 (SH.setl H (b89, 1) [.string (s88 ++ s106)])
  ) ∧ (¬ (x103 = (-1)) →
    disk_Disk_Crash.j6 F K R1 b84 o85 b86 l87 s88 b89 l90 x91 x92 H
  )
def disk_Disk_Crash.j4 (F : Nat) (K : SH → Prop) (R1 : Nat → Nat → Nat → Sl → ByteArray → Sl → Int → Int → SH → Prop) (b45 : Nat) (o46 : Nat) (b47 : Nat) (l48 : Sl) (s49 : ByteArray) (x50 : Int) (q51 : Bool) (b52 : Nat) (l53 : Sl) (x54 : Int) (x55 : Int) (H : SH) : Prop :=
  (q51 = true →
    0 ≤ (w64 (x50 + 1)) ∧
    (w64 (x50 + 1)) ≤ (l48.len : Int) ∧
    (l48.len : Int) ≤ (l48.cap : Int) ∧
    slices_Contains_bool_bool.wp F (Sl.sub 1 l48 (w64 (x50 + 1)).toNat (l48.len : Int).toNat l48.cap) true H (fun q81 H82 =>
      (q81 = true →
        disk_Disk_Crash.j5 F K R1 b45 o46 b47 l48 s49 b52 l53 x54 x55 H82
      ) ∧ (¬ (q81 = true) →
        ∃ (x93 : Int) (s94 : ByteArray),
        SH.row H82 (some (b52, 0)) [.int .i64 x93, .string s94] ∧
        ∃ (x96 : Int),
        SH.has H82 (b47, 1) (.int .i64 x96) ∧
        disk_content_torn.wp F (some (b45, (o46 + 4))) x93 s94 x96 H82 (fun x99 s100 H101 =>
          SH.wrs H101 (b52, 0) 2 ∧
          disk_Disk_Crash.j5 F K R1 b45 o46 b47 l48 s49 b52 l53 x54 x55 (SH.setl H101 (b52, 0) [.int .i64 x99, .string s100])
        )
      )
    )
  ) ∧ (¬ (q51 = true) →
    disk_Disk_Crash.j3 F K R1 b45 o46 b47 l48 s49 l53 x54 x55 H
  )
def disk_Disk_Crash.r1 (F : Nat) (K : SH → Prop) (R1 : Nat → Nat → Nat → Sl → ByteArray → Sl → Int → Int → SH → Prop) (b17 : Nat) (o18 : Nat) (b19 : Nat) (l20 : Sl) (s21 : ByteArray) (l22 : Sl) (x23 : Int) (x24 : Int) (H : SH) : Prop :=
  (x24 < x23 →
    ∃ p26, l22.a = some p26 ∧ 0 ≤ x24 ∧ x24 < (l22.len : Int) ∧
    ∃ (q30 : Bool),
    SH.has H (p26.1, (p26.2 + x24.toNat * 1)) (.bool q30) ∧
    ∃ (l32 : Sl),
    SH.has H (b17, (o18 + 6)) (sv l32) ∧
    ∃ p34, l32.a = some p34 ∧ 0 ≤ x24 ∧ x24 < (l32.len : Int) ∧
    ∃ (x38 : Int) (s39 : ByteArray),
    SH.row H (some (p34.1, (p34.2 + x24.toNat * 2))) [.int .i64 x38, .string s39] ∧
    ∀ b41, H b41 = none →
    SH.wrs (SH.upd H b41 ⟨[.int .i64 0, .string ByteArray.empty], 78, false, 2⟩) (b41, 0) 2 ∧
    (q30 = true →
      disk_Disk_Crash.j4 F K R1 b17 o18 b19 l20 s21 x24 q30 b41 l22 x23 x24 (SH.setl (SH.upd H b41 ⟨[.int .i64 0, .string ByteArray.empty], 78, false, 2⟩) (b41, 0) [.int .i64 x38, .string s39])
    ) ∧ (¬ (q30 = true) →
      ∃ (x56 : Int),
      SH.has (SH.setl (SH.upd H b41 ⟨[.int .i64 0, .string ByteArray.empty], 78, false, 2⟩) (b41, 0) [.int .i64 x38, .string s39]) (b41, 0) (.int .i64 x56) ∧
      (x56 = (-1) →
        ∃ (s59 : ByteArray),
        SH.has (SH.setl (SH.upd H b41 ⟨[.int .i64 0, .string ByteArray.empty], 78, false, 2⟩) (b41, 0) [.int .i64 x38, .string s39]) (b41, 1) (.string s59) ∧
        0 ≤ (s59.size : Int) ∧ (s59.size : Int).toNat * 1 ≤ 281474976710656 ∧
        ∀ b61, (SH.setl (SH.upd H b41 ⟨[.int .i64 0, .string ByteArray.empty], 78, false, 2⟩) (b41, 0) [.int .i64 x38, .string s39]) b61 = none →
        ∃ bs65 : List UInt8,
        (⟨some (b61, 0), (s59.size : Int).toNat, (s59.size : Int).toNat⟩ : Sl).len = bs65.length ∧
        SH.row (SH.upd (SH.setl (SH.upd H b41 ⟨[.int .i64 0, .string ByteArray.empty], 78, false, 2⟩) (b41, 0) [.int .i64 x38, .string s39]) b61 ⟨(Builtin.zeroCells (Value.cells (.int .u8 0 : Value)) (s59.size : Int).toNat).toList, 5, false, (s59.size : Int).toNat * 1⟩) (⟨some (b61, 0), (s59.size : Int).toNat, (s59.size : Int).toNat⟩ : Sl).a (byteCells bs65) ∧
        s21.size + (⟨bs65.toArray⟩ : ByteArray).size ≤ 9223372036854775807 ∧
        disk_Disk_Crash.j3 F K R1 b17 o18 b19 l20 (s21 ++ (⟨bs65.toArray⟩ : ByteArray)) l22 x23 x24 (SH.upd (SH.setl (SH.upd H b41 ⟨[.int .i64 0, .string ByteArray.empty], 78, false, 2⟩) (b41, 0) [.int .i64 x38, .string s39]) b61 ⟨(Builtin.zeroCells (Value.cells (.int .u8 0 : Value)) (s59.size : Int).toNat).toList, 5, false, (s59.size : Int).toNat * 1⟩)
      ) ∧ (¬ (x56 = (-1)) →
        disk_Disk_Crash.j4 F K R1 b17 o18 b19 l20 s21 x24 q30 b41 l22 x23 x24 (SH.setl (SH.upd H b41 ⟨[.int .i64 0, .string ByteArray.empty], 78, false, 2⟩) (b41, 0) [.int .i64 x38, .string s39])
      )
    )
  ) ∧ (¬ (x24 < x23) →
    ∃ (s140 : ByteArray) (l141 : Sl),
    SH.row H (some (b17, (o18 + 4))) [.string s140, sv l141] ∧
    disk_content_copied.wp F s140 l141 H (fun s143 l144 H145 =>
      SH.wrs H145 (b17, (o18 + 2)) 2 ∧
      SH.wrs (SH.setl H145 (b17, (o18 + 2)) [.string s143, sv l144]) (b17, (o18 + 6)) 1 ∧
      SH.wrs (SH.setl (SH.setl H145 (b17, (o18 + 2)) [.string s143, sv l144]) (b17, (o18 + 6)) [sv Sl.nil]) (b17, o18) 2 ∧
      ∃ Hr, SH.le Hr (SH.setl (SH.setl (SH.setl H145 (b17, (o18 + 2)) [.string s143, sv l144]) (b17, (o18 + 6)) [sv Sl.nil]) (b17, o18) [.int .i64 (-1), .bool false]) ∧ K Hr
    )
  )
def disk_Disk_Crash.l1 (F : Nat) (K : SH → Prop) : Nat → Nat → Nat → Nat → Sl → ByteArray → Sl → Int → Int → SH → Prop
  | 0, _, _, _, _, _, _, _, _, _ => False
  | k + 1, b17, o18, b19, l20, s21, l22, x23, x24, H => disk_Disk_Crash.r1 F K (disk_Disk_Crash.l1 F K k) b17 o18 b19 l20 s21 l22 x23 x24 H
def disk_Disk_Crash.wp (F : Nat) (p1 : Option (Nat × Nat)) (l2 : Sl) (x3 : Int) (H : SH) (K : SH → Prop) : Prop :=
  ∀ b4, H b4 = none →
  (p1 = none →
    ∃ Hr, SH.le Hr (SH.upd H b4 ⟨[sv l2, .int .i64 x3], 36, false, 2⟩) ∧ K Hr
  ) ∧ (∀ b6 o7, p1 = some (b6, o7) →
    ∃ (l8 : Sl),
    SH.has (SH.upd H b4 ⟨[sv l2, .int .i64 x3], 36, false, 2⟩) (b4, 0) (sv l8) ∧
    ∃ (l10 : Sl),
    SH.has (SH.upd H b4 ⟨[sv l2, .int .i64 x3], 36, false, 2⟩) (b4, 0) (sv l10) ∧
    ∃ (l12 : Sl),
    SH.has (SH.upd H b4 ⟨[sv l2, .int .i64 x3], 36, false, 2⟩) (b6, (o7 + 6)) (sv l12) ∧
    0 ≤ (0 : Int) ∧
    (0 : Int) ≤ (imin (l10.len : Int) (l12.len : Int)) ∧
    (imin (l10.len : Int) (l12.len : Int)) ≤ (l8.cap : Int) ∧
    disk_Disk_Crash.l1 F K F b6 o7 b4 (Sl.sub 1 l8 (0 : Int).toNat (imin (l10.len : Int) (l12.len : Int)).toNat l8.cap) ByteArray.empty (Sl.sub 1 l8 (0 : Int).toNat (imin (l10.len : Int) (l12.len : Int)).toNat l8.cap) ((Sl.sub 1 l8 (0 : Int).toNat (imin (l10.len : Int) (l12.len : Int)).toNat l8.cap).len : Int) 0 (SH.upd H b4 ⟨[sv l2, .int .i64 x3], 36, false, 2⟩)
  )
set_option maxHeartbeats 8000000 in
theorem disk_Disk_Crash.sound (F : Nat) (p1 : Option (Nat × Nat)) (l2 : Sl) (x3 : Int) (H : SH) (K : SH → Prop) (h : disk_Disk_Crash.wp F p1 l2 x3 H K) : SCalls Tryd.prog 17 #[pv p1, .agg #[sv l2, .int .i64 x3]] H (fun v H' => v = .tuple #[] ∧ K H') := by
  unfold disk_Disk_Crash.wp at h
  refine SCalls.body Tryd.func17 rfl (Nat.le_of_ble_eq_true rfl) ?_
  refine SW.seq ?_
  refine SW.region ?_
  refine SOps.box rfl rfl (wantN rfl) (v := .agg #[sv l2, .int .i64 x3]) rfl (fun b4 c5 => ?_)
  replace h := h b4 c5
  refine SOps.nil ?_
  refine SW.seq ?_
  refine SW.seq ?_
  refine SW.region ?_
  refine SOps.val (v := pv p1) rfl (wantN rfl) (fun _ => by kernel_rfl) ?_
  rcases p1 with _ | ⟨b6, o7⟩
  · replace h := h.1 rfl
    refine SOps.val (v := .bool true) rfl (wantN rfl) (fun _ => by kernel_rfl) ?_
    refine SOps.nil ?_
    refine SW.cond_t (t := true) rfl rfl ?_
    obtain ⟨Hr, hr, h⟩ := h
    exact SW.ret (retQ.mk (.tuple #[]) (res0 rfl) hr ⟨rfl, h⟩)
  · replace h := h.2 b6 o7 rfl
    refine SOps.val (v := .bool false) rfl (wantN rfl) (fun _ => by kernel_rfl) ?_
    refine SOps.nil ?_
    refine SW.cond_f (t := false) rfl rfl ?_
    refine SW.skip ?_
    refine SW.seq ?_
    refine SW.draw (by kernel_rfl) (by kernel_rfl) ?_
    refine SQ.val (v := pv (some (b4, 0))) rfl (wantN rfl) (fun _ => by kernel_rfl) ?_
    obtain ⟨l8, c9, h⟩ := h
    refine SQ.rd (v := sv l8) rfl (wantN rfl) (fun w hw => ev_load1 rfl (fun _ => by kernel_rfl) (p := (b4, 0)) rfl c9 w hw) ?_
    refine SQ.val (v := pv (some (b4, 0))) rfl (wantN rfl) (fun _ => by kernel_rfl) ?_
    obtain ⟨l10, c11, h⟩ := h
    refine SQ.rd (v := sv l10) rfl (wantN rfl) (fun w hw => ev_load1 rfl (fun _ => by kernel_rfl) (p := (b4, 0)) rfl c11 w hw) ?_
    refine SQ.val (v := .int .i64 (l10.len : Int)) rfl (wantN rfl) (fun _ => by kernel_rfl) ?_
    refine SQ.val (v := pv (some (b6, o7))) rfl (wantN rfl) (fun _ => by kernel_rfl) ?_
    refine SQ.val (v := pv (some (b6, o7))) rfl (wantN rfl) (fun _ => by kernel_rfl) ?_
    refine SQ.val (v := pv (some (b6, (o7 + 6)))) rfl (wantN rfl) (fun _ => by kernel_rfl) ?_
    obtain ⟨l12, c13, h⟩ := h
    refine SQ.rd (v := sv l12) rfl (wantN rfl) (fun w hw => ev_load1 rfl (fun _ => by kernel_rfl) (p := (b6, (o7 + 6))) rfl c13 w hw) ?_
    refine SQ.val (v := .int .i64 (l12.len : Int)) rfl (wantN rfl) (fun _ => by kernel_rfl) ?_
    refine SQ.val (v := .int .i64 (imin (l10.len : Int) (l12.len : Int))) rfl (wantN rfl) (fun _ => by kernel_rfl) ?_
    obtain ⟨c14, c15, c16, h⟩ := h
    refine SQ.val (v := sv (Sl.sub 1 l8 (0 : Int).toNat (imin (l10.len : Int) (l12.len : Int)).toNat l8.cap)) rfl (wantN rfl) (fun w => ev_sub (a := (0 : Int)) (b := (imin (l10.len : Int) (l12.len : Int))) rfl Tryd.underlying22 (size := 1) (by kernel_rfl) rfl (Or.inl ⟨rfl, rfl⟩) (Or.inr ⟨_, rfl⟩) c14 c15 c16 w) ?_
    refine SQ.val (v := sv (Sl.sub 1 l8 (0 : Int).toNat (imin (l10.len : Int) (l12.len : Int)).toNat l8.cap)) rfl (wantN rfl) (fun _ => by kernel_rfl) ?_
    refine SQ.nil ?_
    refine SW.seq ?_
    refine SW.region ?_
    refine SOps.val (v := .string ByteArray.empty) rfl (wantN rfl) (fun _ => by kernel_rfl) ?_
    refine SOps.nil ?_
    refine SW.seq ?_
    refine SW.seq ?_
    refine SW.region ?_
    refine SOps.val (v := sv (Sl.sub 1 l8 (0 : Int).toNat (imin (l10.len : Int) (l12.len : Int)).toNat l8.cap)) rfl (wantN rfl) (fun _ => by kernel_rfl) ?_
    refine SOps.val (v := .int .i64 ((Sl.sub 1 l8 (0 : Int).toNat (imin (l10.len : Int) (l12.len : Int)).toNat l8.cap).len : Int)) rfl (wantN rfl) (fun _ => by kernel_rfl) ?_
    refine SOps.val (v := .int .i64 0) rfl (wantN rfl) (fun _ => by kernel_rfl) ?_
    refine SOps.nil ?_
    refine SW.block ?_
    refine SW.loop (fun k1 fr H => ∃ (g : Fr) (b17 : Nat) (o18 : Nat) (b19 : Nat) (l20 : Sl) (s21 : ByteArray) (l22 : Sl) (x23 : Int) (x24 : Int), fr = g.upds [(0, pv (some (b17, o18))), (3, pv (some (b19, 0))), (4, sv l20), (5, (.string s21 : Value)), (23, sv l22), (24, (.int .i64 x23 : Value)), (25, (.int .i64 x24 : Value))] ∧ disk_Disk_Crash.l1 F K k1 b17 o18 b19 l20 s21 l22 x23 x24 H) F ⟨_, b6, o7, b4, Sl.sub 1 l8 (0 : Int).toNat (imin (l10.len : Int) (l12.len : Int)).toNat l8.cap, ByteArray.empty, Sl.sub 1 l8 (0 : Int).toNat (imin (l10.len : Int) (l12.len : Int)).toNat l8.cap, ((Sl.sub 1 l8 (0 : Int).toNat (imin (l10.len : Int) (l12.len : Int)).toNat l8.cap).len : Int), 0, (Fr.upds_self _ _ ⟨rfl, rfl, rfl, rfl, rfl, rfl, rfl, trivial⟩), h⟩ ?_
    clear h
    rintro k1 fr H ⟨g, b17, o18, b19, l20, s21, l22, x23, x24, rfl, h⟩
    cases k1 with
    | zero => exact h.elim
    | succ k1 =>
      replace h : disk_Disk_Crash.r1 F K (disk_Disk_Crash.l1 F K k1) b17 o18 b19 l20 s21 l22 x23 x24 H := h
      unfold disk_Disk_Crash.r1 at h
      refine SW.seq ?_
      refine SW.region ?_
      refine SOps.val (v := .bool (decide (x24 < x23))) rfl (wantN rfl) (fun _ => by kernel_rfl) ?_
      refine SOps.nil ?_
      refine SW.seq ?_
      by_cases c25 : x24 < x23
      · replace h := h.1 c25
        have dc25 : (decide (x24 < x23)) = true := (decide_eq_true c25)
        refine SW.cond_t (t := decide (x24 < x23)) rfl dc25 ?_
        refine SW.skip ?_
        refine SW.seqJ (fun fr H => ∃ (g : Fr) (b132 : Nat) (o133 : Nat) (b134 : Nat) (l135 : Sl) (s136 : ByteArray) (l137 : Sl) (x138 : Int) (x139 : Int), fr = g.upds [(0, pv (some (b132, o133))), (3, pv (some (b134, 0))), (4, sv l135), (5, (.string s136 : Value)), (23, sv l137), (24, (.int .i64 x138 : Value)), (25, (.int .i64 x139 : Value))] ∧ disk_Disk_Crash.j1 F K (disk_Disk_Crash.l1 F K k1) b132 o133 b134 l135 s136 l137 x138 x139 H) ?_ ?_
        · clear h
          rintro fr H ⟨g, b132, o133, b134, l135, s136, l137, x138, x139, rfl, h⟩
          unfold disk_Disk_Crash.j1 at h
          refine SW.region ?_
          refine SOps.val (v := .int .i64 (w64 (x139 + 1))) rfl (wantN rfl) (fun _ => by kernel_rfl) ?_
          refine SOps.val (v := .int .i64 (w64 (x139 + 1))) rfl (wantN rfl) (fun _ => by kernel_rfl) ?_
          refine SOps.nil ?_
          exact ⟨k1, Nat.lt_succ_self k1, _, b132, o133, b134, l135, s136, l137, x138, w64 (x139 + 1), (Fr.upds_self _ _ ⟨rfl, rfl, rfl, rfl, rfl, rfl, rfl, trivial⟩), h⟩
        · skip
          refine SW.blockJ (fun fr H => ∃ (g : Fr) (b124 : Nat) (o125 : Nat) (b126 : Nat) (l127 : Sl) (s128 : ByteArray) (l129 : Sl) (x130 : Int) (x131 : Int), fr = g.upds [(0, pv (some (b124, o125))), (3, pv (some (b126, 0))), (4, sv l127), (5, (.string s128 : Value)), (23, sv l129), (24, (.int .i64 x130 : Value)), (25, (.int .i64 x131 : Value))] ∧ disk_Disk_Crash.j2 F K (disk_Disk_Crash.l1 F K k1) b124 o125 b126 l127 s128 l129 x130 x131 H) ?_ ?_
          · clear h
            rintro fr H ⟨g, b124, o125, b126, l127, s128, l129, x130, x131, rfl, h⟩
            unfold disk_Disk_Crash.j2 at h
            exact ⟨_, b124, o125, b126, l127, s128, l129, x130, x131, Fr.upds_self _ _ ⟨rfl, rfl, rfl, rfl, rfl, rfl, rfl, trivial⟩, h⟩
          · skip
            refine SW.seq ?_
            refine SW.region ?_
            refine SOps.val (v := .int .i64 x24) rfl (wantN rfl) (fun _ => by kernel_rfl) ?_
            obtain ⟨p26, c27, c28, c29, h⟩ := h
            refine SOps.val (v := pv (some (p26.1, (p26.2 + x24.toNat * 1)))) rfl (wantN rfl) (fun w => ev_iaddr rfl Tryd.underlying22 (size := 1) (by kernel_rfl) rfl rfl c27 c28 c29 w) ?_
            obtain ⟨q30, c31, h⟩ := h
            refine SOps.rd (v := .bool q30) rfl (wantN rfl) (fun w hw => ev_load1 rfl (fun _ => by kernel_rfl) (p := (p26.1, (p26.2 + x24.toNat * 1))) rfl c31 w hw) ?_
            refine SOps.val (v := .int .i64 x24) rfl (wantN rfl) (fun _ => by kernel_rfl) ?_
            refine SOps.val (v := .bool q30) rfl (wantN rfl) (fun _ => by kernel_rfl) ?_
            refine SOps.nil ?_
            refine SW.seq ?_
            refine SW.region ?_
            refine SOps.val (v := pv (some (b17, o18))) rfl (wantN rfl) (fun _ => by kernel_rfl) ?_
            refine SOps.val (v := pv (some (b17, o18))) rfl (wantN rfl) (fun _ => by kernel_rfl) ?_
            refine SOps.val (v := pv (some (b17, (o18 + 6)))) rfl (wantN rfl) (fun _ => by kernel_rfl) ?_
            obtain ⟨l32, c33, h⟩ := h
            refine SOps.rd (v := sv l32) rfl (wantN rfl) (fun w hw => ev_load1 rfl (fun _ => by kernel_rfl) (p := (b17, (o18 + 6))) rfl c33 w hw) ?_
            refine SOps.val (v := .int .i64 x24) rfl (wantN rfl) (fun _ => by kernel_rfl) ?_
            obtain ⟨p34, c35, c36, c37, h⟩ := h
            refine SOps.val (v := pv (some (p34.1, (p34.2 + x24.toNat * 2)))) rfl (wantN rfl) (fun w => ev_iaddr rfl Tryd.underlying73 (size := 2) (by kernel_rfl) rfl rfl c35 c36 c37 w) ?_
            obtain ⟨x38, s39, c40, h⟩ := h
            refine SOps.rd (v := .agg #[.int .i64 x38, .string s39]) rfl (wantN rfl) (fun w hw => ev_loadN rfl (fun _ => by kernel_rfl) (size := 2) (by kernel_rfl) (p := (p34.1, (p34.2 + x24.toNat * 2))) rfl rfl c40 w hw) ?_
            refine SOps.alloc rfl rfl (wantN rfl) (z := .agg #[.int .i64 0, .string ByteArray.empty]) (by kernel_rfl) (fun b41 c42 => ?_)
            replace h := h b41 c42
            obtain ⟨c43, h⟩ := h
            refine SOps.storeL (p := (b41, 0)) (v := .agg #[.int .i64 x38, .string s39]) (cs := [.int .i64 x38, .string s39]) rfl rfl (wantN rfl) (size := 2) (by kernel_rfl) rfl rfl rfl rfl (by simp [Value.oneCell', errV_one, pv, sv]) c43 ?_
            refine SOps.nil ?_
            refine SW.seq ?_
            refine SW.block ?_
            refine SW.seq ?_
            refine SW.blockJ (fun fr H => ∃ (g : Fr) (b69 : Nat) (o70 : Nat) (b71 : Nat) (l72 : Sl) (s73 : ByteArray) (l74 : Sl) (x75 : Int) (x76 : Int), fr = g.upds [(0, pv (some (b69, o70))), (3, pv (some (b71, 0))), (4, sv l72), (5, (.string s73 : Value)), (23, sv l74), (24, (.int .i64 x75 : Value)), (25, (.int .i64 x76 : Value))] ∧ disk_Disk_Crash.j3 F K (disk_Disk_Crash.l1 F K k1) b69 o70 b71 l72 s73 l74 x75 x76 H) ?_ ?_
            · clear h
              rintro fr H ⟨g, b69, o70, b71, l72, s73, l74, x75, x76, rfl, h⟩
              unfold disk_Disk_Crash.j3 at h
              refine SW.seq ?_
              refine SW.exit ?_
              exact ⟨_, b69, o70, b71, l72, s73, l74, x75, x76, Fr.upds_self _ _ ⟨rfl, rfl, rfl, rfl, rfl, rfl, rfl, trivial⟩, h⟩
            · skip
              refine SW.seq ?_
              refine SW.block ?_
              refine SW.seq ?_
              refine SW.seqJ (fun fr H => ∃ (g : Fr) (b45 : Nat) (o46 : Nat) (b47 : Nat) (l48 : Sl) (s49 : ByteArray) (x50 : Int) (q51 : Bool) (b52 : Nat) (l53 : Sl) (x54 : Int) (x55 : Int), fr = g.upds [(0, pv (some (b45, o46))), (3, pv (some (b47, 0))), (4, sv l48), (5, (.string s49 : Value)), (6, (.int .i64 x50 : Value)), (7, (.bool q51 : Value)), (8, pv (some (b52, 0))), (23, sv l53), (24, (.int .i64 x54 : Value)), (25, (.int .i64 x55 : Value))] ∧ disk_Disk_Crash.j4 F K (disk_Disk_Crash.l1 F K k1) b45 o46 b47 l48 s49 x50 q51 b52 l53 x54 x55 H) ?_ ?_
              · clear h
                rintro fr H ⟨g, b45, o46, b47, l48, s49, x50, q51, b52, l53, x54, x55, rfl, h⟩
                unfold disk_Disk_Crash.j4 at h
                refine SW.seq ?_
                refine SW.region ?_
                refine SOps.val (v := .bool q51) rfl (wantN rfl) (fun _ => by kernel_rfl) ?_
                refine SOps.val (v := .bool (!q51)) rfl (wantN rfl) (fun _ => by kernel_rfl) ?_
                refine SOps.val (v := .bool (!q51)) rfl (wantN rfl) (fun _ => by kernel_rfl) ?_
                refine SOps.nil ?_
                by_cases c77 : q51 = true
                · replace h := h.1 c77
                  have dc77 : q51 = true := c77
                  refine SW.cond_f (t := !q51) rfl (not_t dc77) ?_
                  refine SW.skip ?_
                  refine SW.exit ?_
                  refine SW.seqJ (fun fr H => ∃ (g : Fr) (b84 : Nat) (o85 : Nat) (b86 : Nat) (l87 : Sl) (s88 : ByteArray) (b89 : Nat) (l90 : Sl) (x91 : Int) (x92 : Int), fr = g.upds [(0, pv (some (b84, o85))), (3, pv (some (b86, 0))), (4, sv l87), (5, (.string s88 : Value)), (8, pv (some (b89, 0))), (23, sv l90), (24, (.int .i64 x91 : Value)), (25, (.int .i64 x92 : Value))] ∧ disk_Disk_Crash.j5 F K (disk_Disk_Crash.l1 F K k1) b84 o85 b86 l87 s88 b89 l90 x91 x92 H) ?_ ?_
                  · clear h
                    rintro fr H ⟨g, b84, o85, b86, l87, s88, b89, l90, x91, x92, rfl, h⟩
                    unfold disk_Disk_Crash.j5 at h
                    refine SW.seqJ (fun fr H => ∃ (g : Fr) (b110 : Nat) (o111 : Nat) (b112 : Nat) (l113 : Sl) (s114 : ByteArray) (b115 : Nat) (l116 : Sl) (x117 : Int) (x118 : Int), fr = g.upds [(0, pv (some (b110, o111))), (3, pv (some (b112, 0))), (4, sv l113), (5, (.string s114 : Value)), (8, pv (some (b115, 0))), (23, sv l116), (24, (.int .i64 x117 : Value)), (25, (.int .i64 x118 : Value))] ∧ disk_Disk_Crash.j6 F K (disk_Disk_Crash.l1 F K k1) b110 o111 b112 l113 s114 b115 l116 x117 x118 H) ?_ ?_
                    · clear h
                      rintro fr H ⟨g, b110, o111, b112, l113, s114, b115, l116, x117, x118, rfl, h⟩
                      unfold disk_Disk_Crash.j6 at h
                      obtain ⟨x119, s120, c121, h⟩ := h
                      refine SW.drawA [.val (pv (some (b110, o111))), .val (pv (some (b110, o111))), .val (pv (some (b110, (o111 + 4)))), .val (.agg #[.int .i64 x119, .string s120])] (by kernel_rfl) (by kernel_rfl) (And.intro ?_ (And.intro ?_ (And.intro ?_ (And.intro ?_ (trivial))))) ?_
                      · clear h
                        intro fr' T' H' hle hs hA
                        have a0 : fr' 0 = pv (some (b110, o111)) := hs 0 (by kernel_rfl)
                        obtain ⟨g', hg'⟩ : ∃ g' : Fr, fr' = g'.upds [(0, pv (some (b110, o111)))] := ⟨_, Fr.upds_self _ _ ⟨a0, trivial⟩⟩
                        subst hg'
                        exact SA.val (v := pv (some (b110, o111))) rfl (wantN rfl) (fun _ => by kernel_rfl)
                      · clear h
                        intro fr' T' H' hle hs hA
                        have a76 : fr' 76 = pv (some (b110, o111)) := hA 0 (by kernel_rfl)
                        obtain ⟨g', hg'⟩ : ∃ g' : Fr, fr' = g'.upds [(76, pv (some (b110, o111)))] := ⟨_, Fr.upds_self _ _ ⟨a76, trivial⟩⟩
                        subst hg'
                        exact SA.val (v := pv (some (b110, o111))) rfl (wantN rfl) (fun _ => by kernel_rfl)
                      · clear h
                        intro fr' T' H' hle hs hA
                        have a77 : fr' 77 = pv (some (b110, o111)) := hA 1 (by kernel_rfl)
                        obtain ⟨g', hg'⟩ : ∃ g' : Fr, fr' = g'.upds [(77, pv (some (b110, o111)))] := ⟨_, Fr.upds_self _ _ ⟨a77, trivial⟩⟩
                        subst hg'
                        exact SA.val (v := pv (some (b110, (o111 + 4)))) rfl (wantN rfl) (fun _ => by kernel_rfl)
                      · clear h
                        intro fr' T' H' hle hs hA
                        have a8 : fr' 8 = pv (some (b115, 0)) := hs 8 (by kernel_rfl)
                        obtain ⟨g', hg'⟩ : ∃ g' : Fr, fr' = g'.upds [(8, pv (some (b115, 0)))] := ⟨_, Fr.upds_self _ _ ⟨a8, trivial⟩⟩
                        subst hg'
                        exact SA.rd hle (v := .agg #[.int .i64 x119, .string s120]) rfl (wantN rfl) (fun w hw => ev_loadN rfl (fun _ => by kernel_rfl) (size := 2) (by kernel_rfl) (p := (b115, 0)) rfl rfl c121 w hw)
                      · intro fr' T' H' hle hs hA
                        have a0 : fr' 0 = pv (some (b110, o111)) := hs 0 (by kernel_rfl)
                        have a3 : fr' 3 = pv (some (b112, 0)) := hs 3 (by kernel_rfl)
                        have a4 : fr' 4 = sv l113 := hs 4 (by kernel_rfl)
                        have a5 : fr' 5 = (.string s114 : Value) := hs 5 (by kernel_rfl)
                        have a23 : fr' 23 = sv l116 := hs 23 (by kernel_rfl)
                        have a24 : fr' 24 = (.int .i64 x117 : Value) := hs 24 (by kernel_rfl)
                        have a25 : fr' 25 = (.int .i64 x118 : Value) := hs 25 (by kernel_rfl)
                        have a78 : fr' 78 = pv (some (b110, (o111 + 4))) := hA 2 (Nat.le_of_ble_eq_true rfl)
                        have a79 : fr' 79 = (.agg #[.int .i64 x119, .string s120] : Value) := hA 3 (Nat.le_of_ble_eq_true rfl)
                        obtain ⟨g', hg'⟩ : ∃ g' : Fr, fr' = g'.upds [(0, pv (some (b110, o111))), (3, pv (some (b112, 0))), (4, sv l113), (5, (.string s114 : Value)), (23, sv l116), (24, (.int .i64 x117 : Value)), (25, (.int .i64 x118 : Value)), (78, pv (some (b110, (o111 + 4)))), (79, (.agg #[.int .i64 x119, .string s120] : Value))] := ⟨_, Fr.upds_self _ _ ⟨a0, a3, a4, a5, a23, a24, a25, a78, a79, trivial⟩⟩
                        subst hg'
                        refine SOps.forget (H) hle ?_
                        clear hle hs hA
                        refine SOps.enter rfl (wantN rfl) (fun _ => by kernel_rfl) (disk_content_put.sound F (some (b110, (o111 + 4))) x119 s120 H _ h) ?_
                        clear h
                        rintro v H123 ⟨rfl, h⟩
                        refine SOps.nil ?_
                        exact ⟨_, b110, o111, b112, l113, s114, l116, x117, x118, Fr.upds_self _ _ ⟨rfl, rfl, rfl, rfl, rfl, rfl, rfl, trivial⟩, h⟩
                    · skip
                      refine SW.seq ?_
                      refine SW.region ?_
                      refine SOps.val (v := pv (some (b89, 0))) rfl (wantN rfl) (fun _ => by kernel_rfl) ?_
                      obtain ⟨x103, c104, h⟩ := h
                      refine SOps.rd (v := .int .i64 x103) rfl (wantN rfl) (fun w hw => ev_load1 rfl (fun _ => by kernel_rfl) (p := (b89, 0)) rfl c104 w hw) ?_
                      refine SOps.val (v := .bool (x103 == (-1))) rfl (wantN rfl) (fun _ => by kernel_rfl) ?_
                      refine SOps.nil ?_
                      by_cases c105 : x103 = (-1)
                      · replace h := h.1 c105
                        have dc105 : (x103 == (-1)) = true := (beq_iff_eq.mpr c105)
                        refine SW.cond_t (t := (x103 == (-1))) rfl dc105 ?_
                        refine SW.region ?_
                        refine SOps.val (v := .string s88) rfl (wantN rfl) (fun _ => by kernel_rfl) ?_
                        refine SOps.val (v := pv (some (b89, 1))) rfl (wantN rfl) (fun _ => by kernel_rfl) ?_
                        obtain ⟨s106, c107, h⟩ := h
                        refine SOps.rd (v := .string s106) rfl (wantN rfl) (fun w hw => ev_load1 rfl (fun _ => by kernel_rfl) (p := (b89, 1)) rfl c107 w hw) ?_
                        obtain ⟨c108, h⟩ := h
                        refine SOps.val (v := .string (s88 ++ s106)) rfl (wantN rfl) (fun w => ev_cat rfl rfl rfl c108 w) ?_
                        refine SOps.val (v := pv (some (b89, 1))) rfl (wantN rfl) (fun _ => by kernel_rfl) ?_
                        obtain ⟨c109, h⟩ := h
                        refine SOps.storeL (p := (b89, 1)) (v := .string (s88 ++ s106)) (cs := [.string (s88 ++ s106)]) rfl rfl (wantN rfl) (size := 1) (by kernel_rfl) rfl rfl rfl rfl (by simp [Value.oneCell', errV_one, pv, sv]) c109 ?_
                        refine SOps.val (v := .string ByteArray.empty) rfl (wantN rfl) (fun _ => by kernel_rfl) ?_
                        refine SOps.nil ?_
                        exact ⟨_, b84, o85, b86, l87, ByteArray.empty, b89, l90, x91, x92, Fr.upds_self _ _ ⟨rfl, rfl, rfl, rfl, rfl, rfl, rfl, rfl, trivial⟩, h⟩
                      · replace h := h.2 c105
                        have dc105 : (x103 == (-1)) = false := (beq_eq_false_iff_ne.mpr c105)
                        refine SW.cond_f (t := (x103 == (-1))) rfl dc105 ?_
                        refine SW.skip ?_
                        exact ⟨_, b84, o85, b86, l87, s88, b89, l90, x91, x92, Fr.upds_self _ _ ⟨rfl, rfl, rfl, rfl, rfl, rfl, rfl, rfl, trivial⟩, h⟩
                  · skip
                    refine SW.seq ?_
                    refine SW.region ?_
                    refine SOps.val (v := sv l48) rfl (wantN rfl) (fun _ => by kernel_rfl) ?_
                    refine SOps.val (v := .int .i64 x50) rfl (wantN rfl) (fun _ => by kernel_rfl) ?_
                    refine SOps.val (v := .int .i64 (w64 (x50 + 1))) rfl (wantN rfl) (fun _ => by kernel_rfl) ?_
                    obtain ⟨c78, c79, c80, h⟩ := h
                    refine SOps.val (v := sv (Sl.sub 1 l48 (w64 (x50 + 1)).toNat (l48.len : Int).toNat l48.cap)) rfl (wantN rfl) (fun w => ev_sub (a := (w64 (x50 + 1))) (b := (l48.len : Int)) rfl Tryd.underlying22 (size := 1) (by kernel_rfl) rfl (Or.inr ⟨_, rfl⟩) (Or.inl ⟨rfl, rfl⟩) c78 c79 c80 w) ?_
                    refine SOps.enter rfl (wantN rfl) (fun _ => by kernel_rfl) (slices_Contains_bool_bool.sound F (Sl.sub 1 l48 (w64 (x50 + 1)).toNat (l48.len : Int).toNat l48.cap) true H _ h) ?_
                    clear h
                    rintro v H82 ⟨q81, rfl, h⟩
                    refine SOps.val (v := .bool (!q81)) rfl (wantN rfl) (fun _ => by kernel_rfl) ?_
                    refine SOps.nil ?_
                    by_cases c83 : q81 = true
                    · replace h := h.1 c83
                      have dc83 : q81 = true := c83
                      refine SW.cond_f (t := !q81) rfl (not_t dc83) ?_
                      refine SW.skip ?_
                      exact ⟨_, b45, o46, b47, l48, s49, b52, l53, x54, x55, Fr.upds_self _ _ ⟨rfl, rfl, rfl, rfl, rfl, rfl, rfl, rfl, trivial⟩, h⟩
                    · replace h := h.2 c83
                      have dc83 : q81 = false := (Bool.eq_false_iff.mpr c83)
                      refine SW.cond_t (t := !q81) rfl (not_f dc83) ?_
                      obtain ⟨x93, s94, c95, h⟩ := h
                      obtain ⟨x96, c97, h⟩ := h
                      refine SW.drawA [.val (pv (some (b45, o46))), .val (pv (some (b45, o46))), .val (pv (some (b45, (o46 + 4)))), .val (.agg #[.int .i64 x93, .string s94]), .val (pv (some (b47, 1))), .val (.int .i64 x96)] (by kernel_rfl) (by kernel_rfl) (And.intro ?_ (And.intro ?_ (And.intro ?_ (And.intro ?_ (And.intro ?_ (And.intro ?_ (trivial))))))) ?_
                      · clear h
                        intro fr' T' H' hle hs hA
                        have a0 : fr' 0 = pv (some (b45, o46)) := hs 0 (by kernel_rfl)
                        obtain ⟨g', hg'⟩ : ∃ g' : Fr, fr' = g'.upds [(0, pv (some (b45, o46)))] := ⟨_, Fr.upds_self _ _ ⟨a0, trivial⟩⟩
                        subst hg'
                        exact SA.val (v := pv (some (b45, o46))) rfl (wantN rfl) (fun _ => by kernel_rfl)
                      · clear h
                        intro fr' T' H' hle hs hA
                        have a61 : fr' 61 = pv (some (b45, o46)) := hA 0 (by kernel_rfl)
                        obtain ⟨g', hg'⟩ : ∃ g' : Fr, fr' = g'.upds [(61, pv (some (b45, o46)))] := ⟨_, Fr.upds_self _ _ ⟨a61, trivial⟩⟩
                        subst hg'
                        exact SA.val (v := pv (some (b45, o46))) rfl (wantN rfl) (fun _ => by kernel_rfl)
                      · clear h
                        intro fr' T' H' hle hs hA
                        have a62 : fr' 62 = pv (some (b45, o46)) := hA 1 (by kernel_rfl)
                        obtain ⟨g', hg'⟩ : ∃ g' : Fr, fr' = g'.upds [(62, pv (some (b45, o46)))] := ⟨_, Fr.upds_self _ _ ⟨a62, trivial⟩⟩
                        subst hg'
                        exact SA.val (v := pv (some (b45, (o46 + 4)))) rfl (wantN rfl) (fun _ => by kernel_rfl)
                      · clear h
                        intro fr' T' H' hle hs hA
                        have a8 : fr' 8 = pv (some (b52, 0)) := hs 8 (by kernel_rfl)
                        obtain ⟨g', hg'⟩ : ∃ g' : Fr, fr' = g'.upds [(8, pv (some (b52, 0)))] := ⟨_, Fr.upds_self _ _ ⟨a8, trivial⟩⟩
                        subst hg'
                        exact SA.rd hle (v := .agg #[.int .i64 x93, .string s94]) rfl (wantN rfl) (fun w hw => ev_loadN rfl (fun _ => by kernel_rfl) (size := 2) (by kernel_rfl) (p := (b52, 0)) rfl rfl c95 w hw)
                      · clear h
                        intro fr' T' H' hle hs hA
                        have a3 : fr' 3 = pv (some (b47, 0)) := hs 3 (by kernel_rfl)
                        obtain ⟨g', hg'⟩ : ∃ g' : Fr, fr' = g'.upds [(3, pv (some (b47, 0)))] := ⟨_, Fr.upds_self _ _ ⟨a3, trivial⟩⟩
                        subst hg'
                        exact SA.val (v := pv (some (b47, 1))) rfl (wantN rfl) (fun _ => by kernel_rfl)
                      · clear h
                        intro fr' T' H' hle hs hA
                        have a65 : fr' 65 = pv (some (b47, 1)) := hA 4 (by kernel_rfl)
                        obtain ⟨g', hg'⟩ : ∃ g' : Fr, fr' = g'.upds [(65, pv (some (b47, 1)))] := ⟨_, Fr.upds_self _ _ ⟨a65, trivial⟩⟩
                        subst hg'
                        exact SA.rd hle (v := .int .i64 x96) rfl (wantN rfl) (fun w hw => ev_load1 rfl (fun _ => by kernel_rfl) (p := (b47, 1)) rfl c97 w hw)
                      · intro fr' T' H' hle hs hA
                        have a0 : fr' 0 = pv (some (b45, o46)) := hs 0 (by kernel_rfl)
                        have a3 : fr' 3 = pv (some (b47, 0)) := hs 3 (by kernel_rfl)
                        have a4 : fr' 4 = sv l48 := hs 4 (by kernel_rfl)
                        have a5 : fr' 5 = (.string s49 : Value) := hs 5 (by kernel_rfl)
                        have a8 : fr' 8 = pv (some (b52, 0)) := hs 8 (by kernel_rfl)
                        have a23 : fr' 23 = sv l53 := hs 23 (by kernel_rfl)
                        have a24 : fr' 24 = (.int .i64 x54 : Value) := hs 24 (by kernel_rfl)
                        have a25 : fr' 25 = (.int .i64 x55 : Value) := hs 25 (by kernel_rfl)
                        have a63 : fr' 63 = pv (some (b45, (o46 + 4))) := hA 2 (Nat.le_of_ble_eq_true rfl)
                        have a64 : fr' 64 = (.agg #[.int .i64 x93, .string s94] : Value) := hA 3 (Nat.le_of_ble_eq_true rfl)
                        have a66 : fr' 66 = (.int .i64 x96 : Value) := hA 5 (Nat.le_of_ble_eq_true rfl)
                        obtain ⟨g', hg'⟩ : ∃ g' : Fr, fr' = g'.upds [(0, pv (some (b45, o46))), (3, pv (some (b47, 0))), (4, sv l48), (5, (.string s49 : Value)), (8, pv (some (b52, 0))), (23, sv l53), (24, (.int .i64 x54 : Value)), (25, (.int .i64 x55 : Value)), (63, pv (some (b45, (o46 + 4)))), (64, (.agg #[.int .i64 x93, .string s94] : Value)), (66, (.int .i64 x96 : Value))] := ⟨_, Fr.upds_self _ _ ⟨a0, a3, a4, a5, a8, a23, a24, a25, a63, a64, a66, trivial⟩⟩
                        subst hg'
                        refine SOps.forget (H82) hle ?_
                        clear hle hs hA
                        refine SOps.enter rfl (wantN rfl) (fun _ => by kernel_rfl) (disk_content_torn.sound F (some (b45, (o46 + 4))) x93 s94 x96 H82 _ h) ?_
                        clear h
                        rintro v H101 ⟨x99, s100, rfl, h⟩
                        obtain ⟨c102, h⟩ := h
                        refine SOps.storeL (p := (b52, 0)) (v := .agg #[.int .i64 x99, .string s100]) (cs := [.int .i64 x99, .string s100]) rfl rfl (wantN rfl) (size := 2) (by kernel_rfl) rfl rfl rfl rfl (by simp [Value.oneCell', errV_one, pv, sv]) c102 ?_
                        refine SOps.nil ?_
                        exact ⟨_, b45, o46, b47, l48, s49, b52, l53, x54, x55, Fr.upds_self _ _ ⟨rfl, rfl, rfl, rfl, rfl, rfl, rfl, rfl, trivial⟩, h⟩
                · replace h := h.2 c77
                  have dc77 : q51 = false := (Bool.eq_false_iff.mpr c77)
                  refine SW.cond_t (t := !q51) rfl (not_f dc77) ?_
                  refine SW.exit ?_
                  exact ⟨_, b45, o46, b47, l48, s49, l53, x54, x55, Fr.upds_self _ _ ⟨rfl, rfl, rfl, rfl, rfl, rfl, rfl, trivial⟩, h⟩
              · skip
                refine SW.seq ?_
                refine SW.region ?_
                refine SOps.val (v := .bool q30) rfl (wantN rfl) (fun _ => by kernel_rfl) ?_
                refine SOps.val (v := .bool (!q30)) rfl (wantN rfl) (fun _ => by kernel_rfl) ?_
                refine SOps.val (v := .bool (!q30)) rfl (wantN rfl) (fun _ => by kernel_rfl) ?_
                by_cases c44 : q30 = true
                · replace h := h.1 c44
                  have dc44 : q30 = true := c44
                  refine SOps.off rfl (wantX (c := !q30) rfl rfl rfl (not_t dc44)) ?_
                  refine SOps.off rfl (wantX (c := !q30) rfl rfl rfl (not_t dc44)) ?_
                  refine SOps.off rfl (wantX (c := !q30) rfl rfl rfl (not_t dc44)) ?_
                  refine SOps.val (v := .bool false) rfl (wantN rfl) (fun w => ev_pickF (v := .bool false) rfl (t := !q30) rfl (not_t dc44) rfl w) ?_
                  refine SOps.val (v := .bool false) rfl (wantN rfl) (fun _ => by kernel_rfl) ?_
                  refine SOps.nil ?_
                  refine SW.cond_f (t := false) rfl rfl ?_
                  refine SW.skip ?_
                  exact ⟨_, b17, o18, b19, l20, s21, x24, q30, b41, l22, x23, x24, Fr.upds_self _ _ ⟨rfl, rfl, rfl, rfl, rfl, rfl, rfl, rfl, rfl, rfl, trivial⟩, h⟩
                · replace h := h.2 c44
                  have dc44 : q30 = false := (Bool.eq_false_iff.mpr c44)
                  refine SOps.val (v := pv (some (b41, 0))) rfl (wantY (c := !q30) rfl rfl rfl (not_f dc44)) (fun _ => by kernel_rfl) ?_
                  obtain ⟨x56, c57, h⟩ := h
                  refine SOps.rd (v := .int .i64 x56) rfl (wantY (c := !q30) rfl rfl rfl (not_f dc44)) (fun w hw => ev_load1 rfl (fun _ => by kernel_rfl) (p := (b41, 0)) rfl c57 w hw) ?_
                  refine SOps.val (v := .bool (x56 == (-1))) rfl (wantY (c := !q30) rfl rfl rfl (not_f dc44)) (fun _ => by kernel_rfl) ?_
                  refine SOps.val (v := .bool (x56 == (-1))) rfl (wantN rfl) (fun w => ev_pickT (v := .bool (x56 == (-1))) rfl (t := !q30) rfl (not_f dc44) rfl w) ?_
                  refine SOps.val (v := .bool (x56 == (-1))) rfl (wantN rfl) (fun _ => by kernel_rfl) ?_
                  refine SOps.nil ?_
                  by_cases c58 : x56 = (-1)
                  · replace h := h.1 c58
                    have dc58 : (x56 == (-1)) = true := (beq_iff_eq.mpr c58)
                    refine SW.cond_t (t := (x56 == (-1))) rfl dc58 ?_
                    refine SW.exit ?_
                    refine SW.region ?_
                    refine SOps.val (v := .string s21) rfl (wantN rfl) (fun _ => by kernel_rfl) ?_
                    refine SOps.val (v := pv (some (b41, 1))) rfl (wantN rfl) (fun _ => by kernel_rfl) ?_
                    obtain ⟨s59, c60, h⟩ := h
                    refine SOps.rd (v := .string s59) rfl (wantN rfl) (fun w hw => ev_load1 rfl (fun _ => by kernel_rfl) (p := (b41, 1)) rfl c60 w hw) ?_
                    refine SOps.val (v := .int .i64 (s59.size : Int)) rfl (wantN rfl) (fun _ => by kernel_rfl) ?_
                    obtain ⟨c63, c64, h⟩ := h
                    refine SOps.make (z := .int .u8 0) (size := 1) (bytes := 1) rfl rfl (wantN rfl) Tryd.underlying67 (by kernel_rfl) rfl (by decide) (by decide) rfl rfl c63 c64 (fun b61 c62 => ?_)
                    replace h := h b61 c62
                    obtain ⟨bs65, c66, c67, h⟩ := h
                    refine SOps.rd (v := .string (⟨bs65.toArray⟩ : ByteArray)) rfl (wantN rfl) (fun w hw => ev_str rfl Tryd.underlying67 Tryd.underlying5 Tryd.underlying9 rfl c66 c67 w hw) ?_
                    obtain ⟨c68, h⟩ := h
                    refine SOps.val (v := .string (s21 ++ (⟨bs65.toArray⟩ : ByteArray))) rfl (wantN rfl) (fun w => ev_cat rfl rfl rfl c68 w) ?_
                    refine SOps.val (v := .string (s21 ++ (⟨bs65.toArray⟩ : ByteArray))) rfl (wantN rfl) (fun _ => by kernel_rfl) ?_
                    refine SOps.nil ?_
                    exact ⟨_, b17, o18, b19, l20, s21 ++ (⟨bs65.toArray⟩ : ByteArray), l22, x23, x24, Fr.upds_self _ _ ⟨rfl, rfl, rfl, rfl, rfl, rfl, rfl, trivial⟩, h⟩
                  · replace h := h.2 c58
                    have dc58 : (x56 == (-1)) = false := (beq_eq_false_iff_ne.mpr c58)
                    refine SW.cond_f (t := (x56 == (-1))) rfl dc58 ?_
                    refine SW.skip ?_
                    exact ⟨_, b17, o18, b19, l20, s21, x24, q30, b41, l22, x23, x24, Fr.upds_self _ _ ⟨rfl, rfl, rfl, rfl, rfl, rfl, rfl, rfl, rfl, rfl, trivial⟩, h⟩
      · replace h := h.2 c25
        have dc25 : (decide (x24 < x23)) = false := (decide_eq_false c25)
        refine SW.cond_f (t := decide (x24 < x23)) rfl dc25 ?_
        refine SW.exit ?_
        refine SW.region ?_
        refine SOps.val (v := pv (some (b17, o18))) rfl (wantN rfl) (fun _ => by kernel_rfl) ?_
        refine SOps.val (v := pv (some (b17, o18))) rfl (wantN rfl) (fun _ => by kernel_rfl) ?_
        refine SOps.val (v := pv (some (b17, o18))) rfl (wantN rfl) (fun _ => by kernel_rfl) ?_
        refine SOps.val (v := pv (some (b17, o18))) rfl (wantN rfl) (fun _ => by kernel_rfl) ?_
        refine SOps.val (v := pv (some (b17, o18))) rfl (wantN rfl) (fun _ => by kernel_rfl) ?_
        refine SOps.val (v := pv (some (b17, (o18 + 4)))) rfl (wantN rfl) (fun _ => by kernel_rfl) ?_
        obtain ⟨s140, l141, c142, h⟩ := h
        refine SOps.rd (v := .agg #[.string s140, sv l141]) rfl (wantN rfl) (fun w hw => ev_loadN rfl (fun _ => by kernel_rfl) (size := 2) (by kernel_rfl) (p := (b17, (o18 + 4))) rfl rfl c142 w hw) ?_
        refine SOps.enter rfl (wantN rfl) (fun _ => by kernel_rfl) (disk_content_copied.sound F s140 l141 H _ h) ?_
        clear h
        rintro v H145 ⟨s143, l144, rfl, h⟩
        refine SOps.val (v := .agg #[.int .i64 (-1), .bool false]) rfl (wantN rfl) (fun _ => by kernel_rfl) ?_
        refine SOps.val (v := pv (some (b17, o18))) rfl (wantN rfl) (fun _ => by kernel_rfl) ?_
        refine SOps.val (v := pv (some (b17, (o18 + 2)))) rfl (wantN rfl) (fun _ => by kernel_rfl) ?_
        obtain ⟨c146, h⟩ := h
        refine SOps.storeL (p := (b17, (o18 + 2))) (v := .agg #[.string s143, sv l144]) (cs := [.string s143, sv l144]) rfl rfl (wantN rfl) (size := 2) (by kernel_rfl) rfl rfl rfl rfl (by simp [Value.oneCell', errV_one, pv, sv]) c146 ?_
        refine SOps.val (v := pv (some (b17, o18))) rfl (wantN rfl) (fun _ => by kernel_rfl) ?_
        refine SOps.val (v := pv (some (b17, (o18 + 6)))) rfl (wantN rfl) (fun _ => by kernel_rfl) ?_
        obtain ⟨c147, h⟩ := h
        refine SOps.storeL (p := (b17, (o18 + 6))) (v := sv Sl.nil) (cs := [sv Sl.nil]) rfl rfl (wantN rfl) (size := 1) (by kernel_rfl) rfl rfl rfl rfl (by simp [Value.oneCell', errV_one, pv, sv]) c147 ?_
        refine SOps.val (v := pv (some (b17, o18))) rfl (wantN rfl) (fun _ => by kernel_rfl) ?_
        refine SOps.val (v := pv (some (b17, o18))) rfl (wantN rfl) (fun _ => by kernel_rfl) ?_
        obtain ⟨c148, h⟩ := h
        refine SOps.storeL (p := (b17, o18)) (v := .agg #[.int .i64 (-1), .bool false]) (cs := [.int .i64 (-1), .bool false]) rfl rfl (wantN rfl) (size := 2) (by kernel_rfl) rfl rfl rfl rfl (by simp [Value.oneCell', errV_one, pv, sv]) c148 ?_
        refine SOps.nil ?_
        obtain ⟨Hr, hr, h⟩ := h
        exact retQ.mkN (.tuple #[]) (res0 rfl) hr ⟨rfl, h⟩

/-! ### (*lading/disk.Disk).Slots: function 22 -/
def disk_Disk_Slots.wp (F : Nat) (p1 : Option (Nat × Nat)) (H : SH) (K : Int → SH → Prop) : Prop :=
  (p1 = none →
    ∃ Hr, SH.le Hr H ∧ K 0 Hr
  ) ∧ (∀ b2 o3, p1 = some (b2, o3) →
    ∃ (l4 : Sl),
    SH.has H (b2, ((o3 + 2) + 1)) (sv l4) ∧
    ∃ Hr, SH.le Hr H ∧ K (l4.len : Int) Hr
  )
set_option maxHeartbeats 8000000 in
theorem disk_Disk_Slots.sound (F : Nat) (p1 : Option (Nat × Nat)) (H : SH) (K : Int → SH → Prop) (h : disk_Disk_Slots.wp F p1 H K) : SCalls Tryd.prog 22 #[pv p1] H (fun v H' => ∃ (x7 : Int), v = .int .i64 x7 ∧ K x7 H') := by
  unfold disk_Disk_Slots.wp at h
  refine SCalls.body Tryd.func22 rfl (Nat.le_of_ble_eq_true rfl) ?_
  refine SW.seq ?_
  refine SW.region ?_
  refine SOps.val (v := .int .i64 0) rfl (wantN rfl) (fun _ => by kernel_rfl) ?_
  refine SOps.nil ?_
  refine SW.seq ?_
  refine SW.seq ?_
  refine SW.region ?_
  refine SOps.val (v := pv p1) rfl (wantN rfl) (fun _ => by kernel_rfl) ?_
  rcases p1 with _ | ⟨b2, o3⟩
  · replace h := h.1 rfl
    refine SOps.val (v := .bool true) rfl (wantN rfl) (fun _ => by kernel_rfl) ?_
    refine SOps.nil ?_
    refine SW.cond_t (t := true) rfl rfl ?_
    refine SW.seq ?_
    refine SW.region ?_
    refine SOps.val (v := .int .i64 0) rfl (wantN rfl) (fun _ => by kernel_rfl) ?_
    refine SOps.nil ?_
    obtain ⟨Hr, hr, h⟩ := h
    exact SW.ret (retQ.mk (.int .i64 0) (res1 rfl rfl) hr ⟨0, rfl, h⟩)
  · replace h := h.2 b2 o3 rfl
    refine SOps.val (v := .bool false) rfl (wantN rfl) (fun _ => by kernel_rfl) ?_
    refine SOps.nil ?_
    refine SW.cond_f (t := false) rfl rfl ?_
    refine SW.skip ?_
    refine SW.seq ?_
    refine SW.region ?_
    refine SOps.val (v := pv (some (b2, o3))) rfl (wantN rfl) (fun _ => by kernel_rfl) ?_
    refine SOps.val (v := pv (some (b2, o3))) rfl (wantN rfl) (fun _ => by kernel_rfl) ?_
    refine SOps.val (v := pv (some (b2, (o3 + 2)))) rfl (wantN rfl) (fun _ => by kernel_rfl) ?_
    refine SOps.val (v := pv (some (b2, ((o3 + 2) + 1)))) rfl (wantN rfl) (fun _ => by kernel_rfl) ?_
    obtain ⟨l4, c5, h⟩ := h
    refine SOps.rd (v := sv l4) rfl (wantN rfl) (fun w hw => ev_load1 rfl (fun _ => by kernel_rfl) (p := (b2, ((o3 + 2) + 1))) rfl c5 w hw) ?_
    refine SOps.val (v := .int .i64 (l4.len : Int)) rfl (wantN rfl) (fun _ => by kernel_rfl) ?_
    refine SOps.val (v := .int .i64 (l4.len : Int)) rfl (wantN rfl) (fun _ => by kernel_rfl) ?_
    refine SOps.nil ?_
    obtain ⟨Hr, hr, h⟩ := h
    exact SW.ret (retQ.mk (.int .i64 (l4.len : Int)) (res1 rfl rfl) hr ⟨(l4.len : Int), rfl, h⟩)

/-! ### (*lading/disk.Disk).Fuse: function 11 -/
def disk_Disk_Fuse.wp (F : Nat) (p1 : Option (Nat × Nat)) (x2 : Int) (H : SH) (K : SH → Prop) : Prop :=
  (p1 = none →
    ∃ Hr, SH.le Hr H ∧ K Hr
  ) ∧ (∀ b3 o4, p1 = some (b3, o4) →
    SH.wrs H (b3, o4) 1 ∧
    ∃ Hr, SH.le Hr (SH.setl H (b3, o4) [.int .i64 (imax x2 (-1))]) ∧ K Hr
  )
set_option maxHeartbeats 8000000 in
theorem disk_Disk_Fuse.sound (F : Nat) (p1 : Option (Nat × Nat)) (x2 : Int) (H : SH) (K : SH → Prop) (h : disk_Disk_Fuse.wp F p1 x2 H K) : SCalls Tryd.prog 11 #[pv p1, .int .i64 x2] H (fun v H' => v = .tuple #[] ∧ K H') := by
  unfold disk_Disk_Fuse.wp at h
  refine SCalls.body Tryd.func11 rfl (Nat.le_of_ble_eq_true rfl) ?_
  refine SW.seq ?_
  refine SW.region ?_
  refine SOps.val (v := pv p1) rfl (wantN rfl) (fun _ => by kernel_rfl) ?_
  rcases p1 with _ | ⟨b3, o4⟩
  · replace h := h.1 rfl
    refine SOps.val (v := .bool false) rfl (wantN rfl) (fun _ => by kernel_rfl) ?_
    refine SOps.nil ?_
    refine SW.cond_f (t := false) rfl rfl ?_
    refine SW.skip ?_
    obtain ⟨Hr, hr, h⟩ := h
    exact retQ.mkN (.tuple #[]) (res0 rfl) hr ⟨rfl, h⟩
  · replace h := h.2 b3 o4 rfl
    refine SOps.val (v := .bool true) rfl (wantN rfl) (fun _ => by kernel_rfl) ?_
    refine SOps.nil ?_
    refine SW.cond_t (t := true) rfl rfl ?_
    refine SW.region ?_
    refine SOps.val (v := pv (some (b3, o4))) rfl (wantN rfl) (fun _ => by kernel_rfl) ?_
    refine SOps.val (v := .int .i64 x2) rfl (wantN rfl) (fun _ => by kernel_rfl) ?_
    refine SOps.val (v := .int .i64 (imax x2 (-1))) rfl (wantN rfl) (fun _ => by kernel_rfl) ?_
    refine SOps.val (v := pv (some (b3, o4))) rfl (wantN rfl) (fun _ => by kernel_rfl) ?_
    refine SOps.val (v := pv (some (b3, o4))) rfl (wantN rfl) (fun _ => by kernel_rfl) ?_
    refine SOps.val (v := pv (some (b3, o4))) rfl (wantN rfl) (fun _ => by kernel_rfl) ?_
    obtain ⟨c5, h⟩ := h
    refine SOps.storeL (p := (b3, o4)) (v := .int .i64 (imax x2 (-1))) (cs := [.int .i64 (imax x2 (-1))]) rfl rfl (wantN rfl) (size := 1) (by kernel_rfl) rfl rfl rfl rfl (by simp [Value.oneCell', errV_one, pv, sv]) c5 ?_
    refine SOps.nil ?_
    obtain ⟨Hr, hr, h⟩ := h
    exact retQ.mkN (.tuple #[]) (res0 rfl) hr ⟨rfl, h⟩

/-! ### (*lading/disk.Disk).Down: function 15 -/
def disk_Disk_Down.wp (F : Nat) (p1 : Option (Nat × Nat)) (H : SH) (K : Bool → SH → Prop) : Prop :=
  (p1 = none →
    ∃ Hr, SH.le Hr H ∧ K true Hr
  ) ∧ (∀ b2 o3, p1 = some (b2, o3) →
    ∃ (q4 : Bool),
    SH.has H (b2, (o3 + 1)) (.bool q4) ∧
    ∃ Hr, SH.le Hr H ∧ K q4 Hr
  )
set_option maxHeartbeats 8000000 in
theorem disk_Disk_Down.sound (F : Nat) (p1 : Option (Nat × Nat)) (H : SH) (K : Bool → SH → Prop) (h : disk_Disk_Down.wp F p1 H K) : SCalls Tryd.prog 15 #[pv p1] H (fun v H' => ∃ (q7 : Bool), v = .bool q7 ∧ K q7 H') := by
  unfold disk_Disk_Down.wp at h
  refine SCalls.body Tryd.func15 rfl (Nat.le_of_ble_eq_true rfl) ?_
  refine SW.seq ?_
  refine SW.region ?_
  refine SOps.val (v := .bool false) rfl (wantN rfl) (fun _ => by kernel_rfl) ?_
  refine SOps.nil ?_
  refine SW.seq ?_
  refine SW.region ?_
  refine SOps.val (v := pv p1) rfl (wantN rfl) (fun _ => by kernel_rfl) ?_
  rcases p1 with _ | ⟨b2, o3⟩
  · replace h := h.1 rfl
    refine SOps.val (v := .bool true) rfl (wantN rfl) (fun _ => by kernel_rfl) ?_
    refine SOps.val (v := .bool true) rfl (wantN rfl) (fun _ => by kernel_rfl) ?_
    refine SOps.off rfl (wantX (c := true) rfl rfl rfl rfl) ?_
    refine SOps.off rfl (wantX (c := true) rfl rfl rfl rfl) ?_
    refine SOps.off rfl (wantX (c := true) rfl rfl rfl rfl) ?_
    refine SOps.off rfl (wantX (c := true) rfl rfl rfl rfl) ?_
    refine SOps.off rfl (wantX (c := true) rfl rfl rfl rfl) ?_
    refine SOps.val (v := .bool true) rfl (wantN rfl) (fun w => ev_pickT (v := .bool true) rfl (t := true) rfl rfl rfl w) ?_
    refine SOps.val (v := .bool true) rfl (wantN rfl) (fun _ => by kernel_rfl) ?_
    refine SOps.nil ?_
    obtain ⟨Hr, hr, h⟩ := h
    exact SW.ret (retQ.mk (.bool true) (res1 rfl rfl) hr ⟨true, rfl, h⟩)
  · replace h := h.2 b2 o3 rfl
    refine SOps.val (v := .bool false) rfl (wantN rfl) (fun _ => by kernel_rfl) ?_
    refine SOps.val (v := .bool false) rfl (wantN rfl) (fun _ => by kernel_rfl) ?_
    refine SOps.val (v := pv (some (b2, o3))) rfl (wantY (c := false) rfl rfl rfl rfl) (fun _ => by kernel_rfl) ?_
    refine SOps.val (v := pv (some (b2, o3))) rfl (wantY (c := false) rfl rfl rfl rfl) (fun _ => by kernel_rfl) ?_
    refine SOps.val (v := pv (some (b2, o3))) rfl (wantY (c := false) rfl rfl rfl rfl) (fun _ => by kernel_rfl) ?_
    refine SOps.val (v := pv (some (b2, (o3 + 1)))) rfl (wantY (c := false) rfl rfl rfl rfl) (fun _ => by kernel_rfl) ?_
    obtain ⟨q4, c5, h⟩ := h
    refine SOps.rd (v := .bool q4) rfl (wantY (c := false) rfl rfl rfl rfl) (fun w hw => ev_load1 rfl (fun _ => by kernel_rfl) (p := (b2, (o3 + 1))) rfl c5 w hw) ?_
    refine SOps.val (v := .bool q4) rfl (wantN rfl) (fun w => ev_pickF (v := .bool q4) rfl (t := false) rfl rfl rfl w) ?_
    refine SOps.val (v := .bool q4) rfl (wantN rfl) (fun _ => by kernel_rfl) ?_
    refine SOps.nil ?_
    obtain ⟨Hr, hr, h⟩ := h
    exact SW.ret (retQ.mk (.bool q4) (res1 rfl rfl) hr ⟨q4, rfl, h⟩)

/-! ### (*lading/disk.Disk).slot: function 50 -/
def disk_Disk_slot.wp (F : Nat) (p1 : Option (Nat × Nat)) (x2 : Int) (H : SH) (K : Option EV → SH → Prop) : Prop :=
  disk_Disk_bars.wp F p1 H (fun e3 H4 =>
    (e3 = none →
      (x2 < 0 →
        ∃ Hr, SH.le Hr H4 ∧ K (some (EV.no 2)) Hr
      ) ∧ (¬ (x2 < 0) →
        (p1 = none →
          False
        ) ∧ (∀ b7 o8, p1 = some (b7, o8) →
          ∃ (l9 : Sl),
          SH.has H4 (b7, ((o8 + 2) + 1)) (sv l9) ∧
          (x2 ≥ (l9.len : Int) →
            ∃ Hr, SH.le Hr H4 ∧ K (some (EV.no 2)) Hr
          ) ∧ (¬ (x2 ≥ (l9.len : Int)) →
            ∃ Hr, SH.le Hr H4 ∧ K none Hr
          )
        )
      )
    ) ∧ (∀ v5, e3 = some v5 →
      ∃ Hr, SH.le Hr H4 ∧ K (some v5) Hr
    )
  )
set_option maxHeartbeats 8000000 in
theorem disk_Disk_slot.sound (F : Nat) (p1 : Option (Nat × Nat)) (x2 : Int) (H : SH) (K : Option EV → SH → Prop) (h : disk_Disk_slot.wp F p1 x2 H K) : SCalls Tryd.prog 50 #[pv p1, .int .i64 x2] H (fun v H' => ∃ (e13 : Option EV), v = errV e13 ∧ K e13 H') := by
  unfold disk_Disk_slot.wp at h
  refine SCalls.body Tryd.func50 rfl (Nat.le_of_ble_eq_true rfl) ?_
  refine SW.seq ?_
  refine SW.region ?_
  refine SOps.val (v := errV none) rfl (wantN rfl) (fun _ => by kernel_rfl) ?_
  refine SOps.nil ?_
  refine SW.seq ?_
  refine SW.seq ?_
  refine SW.region ?_
  refine SOps.val (v := pv p1) rfl (wantN rfl) (fun _ => by kernel_rfl) ?_
  refine SOps.enter rfl (wantN rfl) (fun _ => by kernel_rfl) (disk_Disk_bars.sound F p1 H _ h) ?_
  clear h
  rintro v H4 ⟨e3, rfl, h⟩
  refine SOps.val (v := errV e3) rfl (wantN rfl) (fun _ => by kernel_rfl) ?_
  refine SOps.nil ?_
  refine SW.seq ?_
  refine SW.region ?_
  refine SOps.val (v := errV e3) rfl (wantN rfl) (fun _ => by kernel_rfl) ?_
  rcases e3 with _ | v5
  · replace h := h.1 rfl
    refine SOps.val (v := .bool false) rfl (wantN rfl) (fun w => ev_errNe (e := none) rfl Tryd.underlying28 rfl rfl w) ?_
    refine SOps.nil ?_
    refine SW.cond_f (t := false) rfl rfl ?_
    refine SW.skip ?_
    refine SW.seq ?_
    refine SW.seq ?_
    refine SW.region ?_
    refine SOps.val (v := .int .i64 x2) rfl (wantN rfl) (fun _ => by kernel_rfl) ?_
    refine SOps.val (v := .bool (decide (x2 < 0))) rfl (wantN rfl) (fun _ => by kernel_rfl) ?_
    refine SOps.val (v := .bool (decide (x2 < 0))) rfl (wantN rfl) (fun _ => by kernel_rfl) ?_
    by_cases c6 : x2 < 0
    · replace h := h.1 c6
      have dc6 : (decide (x2 < 0)) = true := (decide_eq_true c6)
      refine SOps.off rfl (wantX (c := decide (x2 < 0)) rfl rfl rfl dc6) ?_
      refine SOps.off rfl (wantX (c := decide (x2 < 0)) rfl rfl rfl dc6) ?_
      refine SOps.off rfl (wantX (c := decide (x2 < 0)) rfl rfl rfl dc6) ?_
      refine SOps.off rfl (wantX (c := decide (x2 < 0)) rfl rfl rfl dc6) ?_
      refine SOps.off rfl (wantX (c := decide (x2 < 0)) rfl rfl rfl dc6) ?_
      refine SOps.off rfl (wantX (c := decide (x2 < 0)) rfl rfl rfl dc6) ?_
      refine SOps.off rfl (wantX (c := decide (x2 < 0)) rfl rfl rfl dc6) ?_
      refine SOps.off rfl (wantX (c := decide (x2 < 0)) rfl rfl rfl dc6) ?_
      refine SOps.val (v := .bool true) rfl (wantN rfl) (fun w => ev_pickT (v := .bool true) rfl (t := decide (x2 < 0)) rfl dc6 rfl w) ?_
      refine SOps.nil ?_
      refine SW.cond_t (t := true) rfl rfl ?_
      refine SW.seq ?_
      refine SW.region ?_
      refine SOps.val (v := errV (some (EV.no 2))) rfl (wantN rfl) (fun _ => by kernel_rfl) ?_
      refine SOps.val (v := errV (some (EV.no 2))) rfl (wantN rfl) (fun _ => by kernel_rfl) ?_
      refine SOps.nil ?_
      obtain ⟨Hr, hr, h⟩ := h
      exact SW.ret (retQ.mk (errV (some (EV.no 2))) (res1 rfl rfl) hr ⟨some (EV.no 2), rfl, h⟩)
    · replace h := h.2 c6
      have dc6 : (decide (x2 < 0)) = false := (decide_eq_false c6)
      refine SOps.val (v := .int .i64 x2) rfl (wantY (c := decide (x2 < 0)) rfl rfl rfl dc6) (fun _ => by kernel_rfl) ?_
      refine SOps.val (v := pv p1) rfl (wantY (c := decide (x2 < 0)) rfl rfl rfl dc6) (fun _ => by kernel_rfl) ?_
      rcases p1 with _ | ⟨b7, o8⟩
      · replace h := h.1 rfl
        exact h.elim
      · replace h := h.2 b7 o8 rfl
        refine SOps.val (v := pv (some (b7, o8))) rfl (wantY (c := decide (x2 < 0)) rfl rfl rfl dc6) (fun _ => by kernel_rfl) ?_
        refine SOps.val (v := pv (some (b7, (o8 + 2)))) rfl (wantY (c := decide (x2 < 0)) rfl rfl rfl dc6) (fun _ => by kernel_rfl) ?_
        refine SOps.val (v := pv (some (b7, ((o8 + 2) + 1)))) rfl (wantY (c := decide (x2 < 0)) rfl rfl rfl dc6) (fun _ => by kernel_rfl) ?_
        obtain ⟨l9, c10, h⟩ := h
        refine SOps.rd (v := sv l9) rfl (wantY (c := decide (x2 < 0)) rfl rfl rfl dc6) (fun w hw => ev_load1 rfl (fun _ => by kernel_rfl) (p := (b7, ((o8 + 2) + 1))) rfl c10 w hw) ?_
        refine SOps.val (v := .int .i64 (l9.len : Int)) rfl (wantY (c := decide (x2 < 0)) rfl rfl rfl dc6) (fun _ => by kernel_rfl) ?_
        refine SOps.val (v := .bool (decide (x2 ≥ (l9.len : Int)))) rfl (wantY (c := decide (x2 < 0)) rfl rfl rfl dc6) (fun _ => by kernel_rfl) ?_
        refine SOps.val (v := .bool (decide (x2 ≥ (l9.len : Int)))) rfl (wantN rfl) (fun w => ev_pickF (v := .bool (decide (x2 ≥ (l9.len : Int)))) rfl (t := decide (x2 < 0)) rfl dc6 rfl w) ?_
        refine SOps.nil ?_
        by_cases c11 : x2 ≥ (l9.len : Int)
        · replace h := h.1 c11
          have dc11 : (decide (x2 ≥ (l9.len : Int))) = true := (decide_eq_true c11)
          refine SW.cond_t (t := decide (x2 ≥ (l9.len : Int))) rfl dc11 ?_
          refine SW.seq ?_
          refine SW.region ?_
          refine SOps.val (v := errV (some (EV.no 2))) rfl (wantN rfl) (fun _ => by kernel_rfl) ?_
          refine SOps.val (v := errV (some (EV.no 2))) rfl (wantN rfl) (fun _ => by kernel_rfl) ?_
          refine SOps.nil ?_
          obtain ⟨Hr, hr, h⟩ := h
          exact SW.ret (retQ.mk (errV (some (EV.no 2))) (res1 rfl rfl) hr ⟨some (EV.no 2), rfl, h⟩)
        · replace h := h.2 c11
          have dc11 : (decide (x2 ≥ (l9.len : Int))) = false := (decide_eq_false c11)
          refine SW.cond_f (t := decide (x2 ≥ (l9.len : Int))) rfl dc11 ?_
          refine SW.skip ?_
          refine SW.seq ?_
          refine SW.region ?_
          refine SOps.val (v := errV none) rfl (wantN rfl) (fun _ => by kernel_rfl) ?_
          refine SOps.nil ?_
          obtain ⟨Hr, hr, h⟩ := h
          exact SW.ret (retQ.mk (errV none) (res1 rfl rfl) hr ⟨none, rfl, h⟩)
  · replace h := h.2 v5 rfl
    refine SOps.val (v := .bool true) rfl (wantN rfl) (fun w => ev_errNe (e := some v5) rfl Tryd.underlying28 rfl rfl w) ?_
    refine SOps.nil ?_
    refine SW.cond_t (t := true) rfl rfl ?_
    refine SW.seq ?_
    refine SW.region ?_
    refine SOps.val (v := errV (some v5)) rfl (wantN rfl) (fun _ => by kernel_rfl) ?_
    refine SOps.val (v := errV (some v5)) rfl (wantN rfl) (fun _ => by kernel_rfl) ?_
    refine SOps.nil ?_
    obtain ⟨Hr, hr, h⟩ := h
    exact SW.ret (retQ.mk (errV (some v5)) (res1 rfl rfl) hr ⟨some v5, rfl, h⟩)

/-! ### (*lading/disk.Disk).Put: function 23 -/
def disk_Disk_Put.wp (F : Nat) (p1 : Option (Nat × Nat)) (x2 : Int) (s3 : ByteArray) (H : SH) (K : Option EV → SH → Prop) : Prop :=
  disk_Disk_slot.wp F p1 x2 H (fun e4 H5 =>
    (e4 = none →
      ((s3.size : Int) > 64 →
        ∃ Hr, SH.le Hr H5 ∧ K (some (EV.no 6)) Hr
      ) ∧ (¬ ((s3.size : Int) > 64) →
        disk_Disk_does.wp F p1 x2 s3 H5 (fun e8 H9 =>
          ∃ Hr, SH.le Hr H9 ∧ K e8 Hr
        )
      )
    ) ∧ (∀ v6, e4 = some v6 →
      ∃ Hr, SH.le Hr H5 ∧ K (some v6) Hr
    )
  )
set_option maxHeartbeats 8000000 in
theorem disk_Disk_Put.sound (F : Nat) (p1 : Option (Nat × Nat)) (x2 : Int) (s3 : ByteArray) (H : SH) (K : Option EV → SH → Prop) (h : disk_Disk_Put.wp F p1 x2 s3 H K) : SCalls Tryd.prog 23 #[pv p1, .int .i64 x2, .string s3] H (fun v H' => ∃ (e11 : Option EV), v = errV e11 ∧ K e11 H') := by
  unfold disk_Disk_Put.wp at h
  refine SCalls.body Tryd.func23 rfl (Nat.le_of_ble_eq_true rfl) ?_
  refine SW.seq ?_
  refine SW.region ?_
  refine SOps.val (v := errV none) rfl (wantN rfl) (fun _ => by kernel_rfl) ?_
  refine SOps.nil ?_
  refine SW.seq ?_
  refine SW.seq ?_
  refine SW.region ?_
  refine SOps.val (v := pv p1) rfl (wantN rfl) (fun _ => by kernel_rfl) ?_
  refine SOps.val (v := .int .i64 x2) rfl (wantN rfl) (fun _ => by kernel_rfl) ?_
  refine SOps.enter rfl (wantN rfl) (fun _ => by kernel_rfl) (disk_Disk_slot.sound F p1 x2 H _ h) ?_
  clear h
  rintro v H5 ⟨e4, rfl, h⟩
  refine SOps.val (v := errV e4) rfl (wantN rfl) (fun _ => by kernel_rfl) ?_
  refine SOps.nil ?_
  refine SW.seq ?_
  refine SW.region ?_
  refine SOps.val (v := errV e4) rfl (wantN rfl) (fun _ => by kernel_rfl) ?_
  rcases e4 with _ | v6
  · replace h := h.1 rfl
    refine SOps.val (v := .bool false) rfl (wantN rfl) (fun w => ev_errNe (e := none) rfl Tryd.underlying28 rfl rfl w) ?_
    refine SOps.nil ?_
    refine SW.cond_f (t := false) rfl rfl ?_
    refine SW.skip ?_
    refine SW.seq ?_
    refine SW.seq ?_
    refine SW.region ?_
    refine SOps.val (v := .string s3) rfl (wantN rfl) (fun _ => by kernel_rfl) ?_
    refine SOps.val (v := .int .i64 (s3.size : Int)) rfl (wantN rfl) (fun _ => by kernel_rfl) ?_
    refine SOps.val (v := .bool (decide ((s3.size : Int) > 64))) rfl (wantN rfl) (fun _ => by kernel_rfl) ?_
    refine SOps.nil ?_
    by_cases c7 : (s3.size : Int) > 64
    · replace h := h.1 c7
      have dc7 : (decide ((s3.size : Int) > 64)) = true := (decide_eq_true c7)
      refine SW.cond_t (t := decide ((s3.size : Int) > 64)) rfl dc7 ?_
      refine SW.seq ?_
      refine SW.region ?_
      refine SOps.val (v := errV (some (EV.no 6))) rfl (wantN rfl) (fun _ => by kernel_rfl) ?_
      refine SOps.val (v := errV (some (EV.no 6))) rfl (wantN rfl) (fun _ => by kernel_rfl) ?_
      refine SOps.nil ?_
      obtain ⟨Hr, hr, h⟩ := h
      exact SW.ret (retQ.mk (errV (some (EV.no 6))) (res1 rfl rfl) hr ⟨some (EV.no 6), rfl, h⟩)
    · replace h := h.2 c7
      have dc7 : (decide ((s3.size : Int) > 64)) = false := (decide_eq_false c7)
      refine SW.cond_f (t := decide ((s3.size : Int) > 64)) rfl dc7 ?_
      refine SW.skip ?_
      refine SW.seq ?_
      refine SW.region ?_
      refine SOps.val (v := pv p1) rfl (wantN rfl) (fun _ => by kernel_rfl) ?_
      refine SOps.val (v := .int .i64 x2) rfl (wantN rfl) (fun _ => by kernel_rfl) ?_
      refine SOps.val (v := .string s3) rfl (wantN rfl) (fun _ => by kernel_rfl) ?_
      refine SOps.val (v := .agg #[.int .i64 x2, .string s3]) rfl (wantN rfl) (fun _ => by kernel_rfl) ?_
      refine SOps.enter rfl (wantN rfl) (fun _ => by kernel_rfl) (disk_Disk_does.sound F p1 x2 s3 H5 _ h) ?_
      clear h
      rintro v H9 ⟨e8, rfl, h⟩
      refine SOps.val (v := errV e8) rfl (wantN rfl) (fun _ => by kernel_rfl) ?_
      refine SOps.nil ?_
      obtain ⟨Hr, hr, h⟩ := h
      exact SW.ret (retQ.mk (errV e8) (res1 rfl rfl) hr ⟨e8, rfl, h⟩)
  · replace h := h.2 v6 rfl
    refine SOps.val (v := .bool true) rfl (wantN rfl) (fun w => ev_errNe (e := some v6) rfl Tryd.underlying28 rfl rfl w) ?_
    refine SOps.nil ?_
    refine SW.cond_t (t := true) rfl rfl ?_
    refine SW.seq ?_
    refine SW.region ?_
    refine SOps.val (v := errV (some v6)) rfl (wantN rfl) (fun _ => by kernel_rfl) ?_
    refine SOps.val (v := errV (some v6)) rfl (wantN rfl) (fun _ => by kernel_rfl) ?_
    refine SOps.nil ?_
    obtain ⟨Hr, hr, h⟩ := h
    exact SW.ret (retQ.mk (errV (some v6)) (res1 rfl rfl) hr ⟨some v6, rfl, h⟩)

/-! ### (*lading/disk.Disk).Cut: function 25 -/
def disk_Disk_Cut.wp (F : Nat) (p1 : Option (Nat × Nat)) (x2 : Int) (H : SH) (K : Option EV → SH → Prop) : Prop :=
  disk_Disk_bars.wp F p1 H (fun e3 H4 =>
    (e3 = none →
      (x2 < 0 →
        ∃ Hr, SH.le Hr H4 ∧ K (some (EV.no 2)) Hr
      ) ∧ (¬ (x2 < 0) →
        (p1 = none →
          False
        ) ∧ (∀ b7 o8, p1 = some (b7, o8) →
          ∃ (s9 : ByteArray),
          SH.has H4 (b7, (o8 + 2)) (.string s9) ∧
          (x2 > (s9.size : Int) →
            ∃ Hr, SH.le Hr H4 ∧ K (some (EV.no 2)) Hr
          ) ∧ (¬ (x2 > (s9.size : Int)) →
            disk_fuse_burn.wp F (some (b7, o8)) H4 (fun e12 H13 =>
              (e12 = none →
                ∃ (s15 : ByteArray),
                SH.has H13 (b7, (o8 + 2)) (.string s15) ∧
                0 ≤ (0 : Int) ∧
                (0 : Int) ≤ x2 ∧
                x2 ≤ (s15.size : Int) ∧
                SH.wrs H13 (b7, (o8 + 2)) 1 ∧
                disk_Disk_settle.wp F (some (b7, o8)) (SH.setl H13 (b7, (o8 + 2)) [.string (s15.extract (0 : Int).toNat x2.toNat)]) (fun H21 =>
                  ∃ Hr, SH.le Hr H21 ∧ K none Hr
                )
              ) ∧ (∀ v14, e12 = some v14 →
                ∃ Hr, SH.le Hr H13 ∧ K (some v14) Hr
              )
            )
          )
        )
      )
    ) ∧ (∀ v5, e3 = some v5 →
      ∃ Hr, SH.le Hr H4 ∧ K (some v5) Hr
    )
  )
set_option maxHeartbeats 8000000 in
theorem disk_Disk_Cut.sound (F : Nat) (p1 : Option (Nat × Nat)) (x2 : Int) (H : SH) (K : Option EV → SH → Prop) (h : disk_Disk_Cut.wp F p1 x2 H K) : SCalls Tryd.prog 25 #[pv p1, .int .i64 x2] H (fun v H' => ∃ (e23 : Option EV), v = errV e23 ∧ K e23 H') := by
  unfold disk_Disk_Cut.wp at h
  refine SCalls.body Tryd.func25 rfl (Nat.le_of_ble_eq_true rfl) ?_
  refine SW.seq ?_
  refine SW.region ?_
  refine SOps.val (v := errV none) rfl (wantN rfl) (fun _ => by kernel_rfl) ?_
  refine SOps.nil ?_
  refine SW.seq ?_
  refine SW.seq ?_
  refine SW.region ?_
  refine SOps.val (v := pv p1) rfl (wantN rfl) (fun _ => by kernel_rfl) ?_
  refine SOps.enter rfl (wantN rfl) (fun _ => by kernel_rfl) (disk_Disk_bars.sound F p1 H _ h) ?_
  clear h
  rintro v H4 ⟨e3, rfl, h⟩
  refine SOps.val (v := errV e3) rfl (wantN rfl) (fun _ => by kernel_rfl) ?_
  refine SOps.nil ?_
  refine SW.seq ?_
  refine SW.region ?_
  refine SOps.val (v := errV e3) rfl (wantN rfl) (fun _ => by kernel_rfl) ?_
  rcases e3 with _ | v5
  · replace h := h.1 rfl
    refine SOps.val (v := .bool false) rfl (wantN rfl) (fun w => ev_errNe (e := none) rfl Tryd.underlying28 rfl rfl w) ?_
    refine SOps.nil ?_
    refine SW.cond_f (t := false) rfl rfl ?_
    refine SW.skip ?_
    refine SW.seq ?_
    refine SW.seq ?_
    refine SW.region ?_
    refine SOps.val (v := .int .i64 x2) rfl (wantN rfl) (fun _ => by kernel_rfl) ?_
    refine SOps.val (v := .bool (decide (x2 < 0))) rfl (wantN rfl) (fun _ => by kernel_rfl) ?_
    refine SOps.val (v := .bool (decide (x2 < 0))) rfl (wantN rfl) (fun _ => by kernel_rfl) ?_
    by_cases c6 : x2 < 0
    · replace h := h.1 c6
      have dc6 : (decide (x2 < 0)) = true := (decide_eq_true c6)
      refine SOps.off rfl (wantX (c := decide (x2 < 0)) rfl rfl rfl dc6) ?_
      refine SOps.off rfl (wantX (c := decide (x2 < 0)) rfl rfl rfl dc6) ?_
      refine SOps.off rfl (wantX (c := decide (x2 < 0)) rfl rfl rfl dc6) ?_
      refine SOps.off rfl (wantX (c := decide (x2 < 0)) rfl rfl rfl dc6) ?_
      refine SOps.off rfl (wantX (c := decide (x2 < 0)) rfl rfl rfl dc6) ?_
      refine SOps.off rfl (wantX (c := decide (x2 < 0)) rfl rfl rfl dc6) ?_
      refine SOps.off rfl (wantX (c := decide (x2 < 0)) rfl rfl rfl dc6) ?_
      refine SOps.off rfl (wantX (c := decide (x2 < 0)) rfl rfl rfl dc6) ?_
      refine SOps.val (v := .bool true) rfl (wantN rfl) (fun w => ev_pickT (v := .bool true) rfl (t := decide (x2 < 0)) rfl dc6 rfl w) ?_
      refine SOps.nil ?_
      refine SW.cond_t (t := true) rfl rfl ?_
      refine SW.seq ?_
      refine SW.region ?_
      refine SOps.val (v := errV (some (EV.no 2))) rfl (wantN rfl) (fun _ => by kernel_rfl) ?_
      refine SOps.val (v := errV (some (EV.no 2))) rfl (wantN rfl) (fun _ => by kernel_rfl) ?_
      refine SOps.nil ?_
      obtain ⟨Hr, hr, h⟩ := h
      exact SW.ret (retQ.mk (errV (some (EV.no 2))) (res1 rfl rfl) hr ⟨some (EV.no 2), rfl, h⟩)
    · replace h := h.2 c6
      have dc6 : (decide (x2 < 0)) = false := (decide_eq_false c6)
      refine SOps.val (v := .int .i64 x2) rfl (wantY (c := decide (x2 < 0)) rfl rfl rfl dc6) (fun _ => by kernel_rfl) ?_
      refine SOps.val (v := pv p1) rfl (wantY (c := decide (x2 < 0)) rfl rfl rfl dc6) (fun _ => by kernel_rfl) ?_
      rcases p1 with _ | ⟨b7, o8⟩
      · replace h := h.1 rfl
        exact h.elim
      · replace h := h.2 b7 o8 rfl
        refine SOps.val (v := pv (some (b7, o8))) rfl (wantY (c := decide (x2 < 0)) rfl rfl rfl dc6) (fun _ => by kernel_rfl) ?_
        refine SOps.val (v := pv (some (b7, (o8 + 2)))) rfl (wantY (c := decide (x2 < 0)) rfl rfl rfl dc6) (fun _ => by kernel_rfl) ?_
        refine SOps.val (v := pv (some (b7, (o8 + 2)))) rfl (wantY (c := decide (x2 < 0)) rfl rfl rfl dc6) (fun _ => by kernel_rfl) ?_
        obtain ⟨s9, c10, h⟩ := h
        refine SOps.rd (v := .string s9) rfl (wantY (c := decide (x2 < 0)) rfl rfl rfl dc6) (fun w hw => ev_load1 rfl (fun _ => by kernel_rfl) (p := (b7, (o8 + 2))) rfl c10 w hw) ?_
        refine SOps.val (v := .int .i64 (s9.size : Int)) rfl (wantY (c := decide (x2 < 0)) rfl rfl rfl dc6) (fun _ => by kernel_rfl) ?_
        refine SOps.val (v := .bool (decide (x2 > (s9.size : Int)))) rfl (wantY (c := decide (x2 < 0)) rfl rfl rfl dc6) (fun _ => by kernel_rfl) ?_
        refine SOps.val (v := .bool (decide (x2 > (s9.size : Int)))) rfl (wantN rfl) (fun w => ev_pickF (v := .bool (decide (x2 > (s9.size : Int)))) rfl (t := decide (x2 < 0)) rfl dc6 rfl w) ?_
        refine SOps.nil ?_
        by_cases c11 : x2 > (s9.size : Int)
        · replace h := h.1 c11
          have dc11 : (decide (x2 > (s9.size : Int))) = true := (decide_eq_true c11)
          refine SW.cond_t (t := decide (x2 > (s9.size : Int))) rfl dc11 ?_
          refine SW.seq ?_
          refine SW.region ?_
          refine SOps.val (v := errV (some (EV.no 2))) rfl (wantN rfl) (fun _ => by kernel_rfl) ?_
          refine SOps.val (v := errV (some (EV.no 2))) rfl (wantN rfl) (fun _ => by kernel_rfl) ?_
          refine SOps.nil ?_
          obtain ⟨Hr, hr, h⟩ := h
          exact SW.ret (retQ.mk (errV (some (EV.no 2))) (res1 rfl rfl) hr ⟨some (EV.no 2), rfl, h⟩)
        · replace h := h.2 c11
          have dc11 : (decide (x2 > (s9.size : Int))) = false := (decide_eq_false c11)
          refine SW.cond_f (t := decide (x2 > (s9.size : Int))) rfl dc11 ?_
          refine SW.skip ?_
          refine SW.seq ?_
          refine SW.seq ?_
          refine SW.region ?_
          refine SOps.val (v := pv (some (b7, o8))) rfl (wantN rfl) (fun _ => by kernel_rfl) ?_
          refine SOps.val (v := pv (some (b7, o8))) rfl (wantN rfl) (fun _ => by kernel_rfl) ?_
          refine SOps.val (v := pv (some (b7, o8))) rfl (wantN rfl) (fun _ => by kernel_rfl) ?_
          refine SOps.enter rfl (wantN rfl) (fun _ => by kernel_rfl) (disk_fuse_burn.sound F (some (b7, o8)) H4 _ h) ?_
          clear h
          rintro v H13 ⟨e12, rfl, h⟩
          refine SOps.val (v := errV e12) rfl (wantN rfl) (fun _ => by kernel_rfl) ?_
          refine SOps.nil ?_
          refine SW.seq ?_
          refine SW.region ?_
          refine SOps.val (v := errV e12) rfl (wantN rfl) (fun _ => by kernel_rfl) ?_
          rcases e12 with _ | v14
          · replace h := h.1 rfl
            refine SOps.val (v := .bool false) rfl (wantN rfl) (fun w => ev_errNe (e := none) rfl Tryd.underlying28 rfl rfl w) ?_
            refine SOps.nil ?_
            refine SW.cond_f (t := false) rfl rfl ?_
            refine SW.skip ?_
            refine SW.seq ?_
            refine SW.region ?_
            refine SOps.val (v := pv (some (b7, o8))) rfl (wantN rfl) (fun _ => by kernel_rfl) ?_
            refine SOps.val (v := pv (some (b7, o8))) rfl (wantN rfl) (fun _ => by kernel_rfl) ?_
            refine SOps.val (v := pv (some (b7, o8))) rfl (wantN rfl) (fun _ => by kernel_rfl) ?_
            refine SOps.val (v := pv (some (b7, (o8 + 2)))) rfl (wantN rfl) (fun _ => by kernel_rfl) ?_
            refine SOps.val (v := pv (some (b7, (o8 + 2)))) rfl (wantN rfl) (fun _ => by kernel_rfl) ?_
            obtain ⟨s15, c16, h⟩ := h
            refine SOps.rd (v := .string s15) rfl (wantN rfl) (fun w hw => ev_load1 rfl (fun _ => by kernel_rfl) (p := (b7, (o8 + 2))) rfl c16 w hw) ?_
            refine SOps.val (v := .int .i64 x2) rfl (wantN rfl) (fun _ => by kernel_rfl) ?_
            obtain ⟨c17, c18, c19, h⟩ := h
            refine SOps.val (v := .string (s15.extract (0 : Int).toNat x2.toNat)) rfl (wantN rfl) (fun w => ev_subS (a := (0 : Int)) (b := x2) rfl Tryd.underlying9 rfl (Or.inl ⟨rfl, rfl⟩) (Or.inr ⟨_, rfl⟩) c17 c18 c19 w) ?_
            refine SOps.val (v := pv (some (b7, o8))) rfl (wantN rfl) (fun _ => by kernel_rfl) ?_
            refine SOps.val (v := pv (some (b7, (o8 + 2)))) rfl (wantN rfl) (fun _ => by kernel_rfl) ?_
            refine SOps.val (v := pv (some (b7, (o8 + 2)))) rfl (wantN rfl) (fun _ => by kernel_rfl) ?_
            obtain ⟨c20, h⟩ := h
            refine SOps.storeL (p := (b7, (o8 + 2))) (v := .string (s15.extract (0 : Int).toNat x2.toNat)) (cs := [.string (s15.extract (0 : Int).toNat x2.toNat)]) rfl rfl (wantN rfl) (size := 1) (by kernel_rfl) rfl rfl rfl rfl (by simp [Value.oneCell', errV_one, pv, sv]) c20 ?_
            refine SOps.nil ?_
            refine SW.seq ?_
            refine SW.region ?_
            refine SOps.val (v := pv (some (b7, o8))) rfl (wantN rfl) (fun _ => by kernel_rfl) ?_
            refine SOps.enter rfl (wantN rfl) (fun _ => by kernel_rfl) (disk_Disk_settle.sound F (some (b7, o8)) (SH.setl H13 (b7, (o8 + 2)) [.string (s15.extract (0 : Int).toNat x2.toNat)]) _ h) ?_
            clear h
            rintro v H21 ⟨rfl, h⟩
            refine SOps.nil ?_
            refine SW.seq ?_
            refine SW.region ?_
            refine SOps.val (v := errV none) rfl (wantN rfl) (fun _ => by kernel_rfl) ?_
            refine SOps.nil ?_
            obtain ⟨Hr, hr, h⟩ := h
            exact SW.ret (retQ.mk (errV none) (res1 rfl rfl) hr ⟨none, rfl, h⟩)
          · replace h := h.2 v14 rfl
            refine SOps.val (v := .bool true) rfl (wantN rfl) (fun w => ev_errNe (e := some v14) rfl Tryd.underlying28 rfl rfl w) ?_
            refine SOps.nil ?_
            refine SW.cond_t (t := true) rfl rfl ?_
            refine SW.seq ?_
            refine SW.region ?_
            refine SOps.val (v := errV (some v14)) rfl (wantN rfl) (fun _ => by kernel_rfl) ?_
            refine SOps.val (v := errV (some v14)) rfl (wantN rfl) (fun _ => by kernel_rfl) ?_
            refine SOps.nil ?_
            obtain ⟨Hr, hr, h⟩ := h
            exact SW.ret (retQ.mk (errV (some v14)) (res1 rfl rfl) hr ⟨some v14, rfl, h⟩)
  · replace h := h.2 v5 rfl
    refine SOps.val (v := .bool true) rfl (wantN rfl) (fun w => ev_errNe (e := some v5) rfl Tryd.underlying28 rfl rfl w) ?_
    refine SOps.nil ?_
    refine SW.cond_t (t := true) rfl rfl ?_
    refine SW.seq ?_
    refine SW.region ?_
    refine SOps.val (v := errV (some v5)) rfl (wantN rfl) (fun _ => by kernel_rfl) ?_
    refine SOps.val (v := errV (some v5)) rfl (wantN rfl) (fun _ => by kernel_rfl) ?_
    refine SOps.nil ?_
    obtain ⟨Hr, hr, h⟩ := h
    exact SW.ret (retQ.mk (errV (some v5)) (res1 rfl rfl) hr ⟨some v5, rfl, h⟩)

/-! ### lading/disk.turned: function 51 -/
def disk_turned.wp (F : Nat) (s1 : ByteArray) (x2 : Int) (x3 : Int) (H : SH) (K : ByteArray → SH → Prop) : Prop :=
  (x2 ≥ (s1.size : Int) →
    ∃ Hr, SH.le Hr H ∧ K s1 Hr
  ) ∧ (¬ (x2 ≥ (s1.size : Int)) →
    ∀ b5 n6, H b5 = none → s1.size ≤ n6 →
    ∃ p9, (⟨some (b5, 0), s1.size, n6⟩ : Sl).a = some p9 ∧ 0 ≤ x2 ∧ x2 < ((⟨some (b5, 0), s1.size, n6⟩ : Sl).len : Int) ∧
    ∃ (x13 : Int),
    SH.has (SH.upd H b5 ⟨byteCells s1.data.toList, 5, false, n6⟩) (p9.1, (p9.2 + x2.toNat * 1)) (.int .u8 x13) ∧
    ∃ p15, (⟨some (b5, 0), s1.size, n6⟩ : Sl).a = some p15 ∧ 0 ≤ x2 ∧ x2 < ((⟨some (b5, 0), s1.size, n6⟩ : Sl).len : Int) ∧
    SH.wrs (SH.upd H b5 ⟨byteCells s1.data.toList, 5, false, n6⟩) (p15.1, (p15.2 + x2.toNat * 1)) 1 ∧
    ∃ bs20 : List UInt8,
    (⟨some (b5, 0), s1.size, n6⟩ : Sl).len = bs20.length ∧
    SH.row (SH.setl (SH.upd H b5 ⟨byteCells s1.data.toList, 5, false, n6⟩) (p15.1, (p15.2 + x2.toNat * 1)) [.int .u8 (ibits .xor .u8 x13 x3)]) (⟨some (b5, 0), s1.size, n6⟩ : Sl).a (byteCells bs20) ∧
    ∃ Hr, SH.le Hr (SH.setl (SH.upd H b5 ⟨byteCells s1.data.toList, 5, false, n6⟩) (p15.1, (p15.2 + x2.toNat * 1)) [.int .u8 (ibits .xor .u8 x13 x3)]) ∧ K (⟨bs20.toArray⟩ : ByteArray) Hr
  )
set_option maxHeartbeats 8000000 in
theorem disk_turned.sound (F : Nat) (s1 : ByteArray) (x2 : Int) (x3 : Int) (H : SH) (K : ByteArray → SH → Prop) (h : disk_turned.wp F s1 x2 x3 H K) : SCalls Tryd.prog 51 #[.string s1, .int .i64 x2, .int .u8 x3] H (fun v H' => ∃ (s24 : ByteArray), v = .string s24 ∧ K s24 H') := by
  unfold disk_turned.wp at h
  refine SCalls.body Tryd.func51 rfl (Nat.le_of_ble_eq_true rfl) ?_
  refine SW.seq ?_
  refine SW.region ?_
  refine SOps.val (v := .string ByteArray.empty) rfl (wantN rfl) (fun _ => by kernel_rfl) ?_
  refine SOps.nil ?_
  refine SW.seq ?_
  refine SW.seq ?_
  refine SW.region ?_
  refine SOps.val (v := .int .i64 x2) rfl (wantN rfl) (fun _ => by kernel_rfl) ?_
  refine SOps.val (v := .string s1) rfl (wantN rfl) (fun _ => by kernel_rfl) ?_
  refine SOps.val (v := .int .i64 (s1.size : Int)) rfl (wantN rfl) (fun _ => by kernel_rfl) ?_
  refine SOps.val (v := .bool (decide (x2 ≥ (s1.size : Int)))) rfl (wantN rfl) (fun _ => by kernel_rfl) ?_
  refine SOps.nil ?_
  by_cases c4 : x2 ≥ (s1.size : Int)
  · replace h := h.1 c4
    have dc4 : (decide (x2 ≥ (s1.size : Int))) = true := (decide_eq_true c4)
    refine SW.cond_t (t := decide (x2 ≥ (s1.size : Int))) rfl dc4 ?_
    refine SW.seq ?_
    refine SW.region ?_
    refine SOps.val (v := .string s1) rfl (wantN rfl) (fun _ => by kernel_rfl) ?_
    refine SOps.val (v := .string s1) rfl (wantN rfl) (fun _ => by kernel_rfl) ?_
    refine SOps.nil ?_
    obtain ⟨Hr, hr, h⟩ := h
    exact SW.ret (retQ.mk (.string s1) (res1 rfl rfl) hr ⟨s1, rfl, h⟩)
  · replace h := h.2 c4
    have dc4 : (decide (x2 ≥ (s1.size : Int))) = false := (decide_eq_false c4)
    refine SW.cond_f (t := decide (x2 ≥ (s1.size : Int))) rfl dc4 ?_
    refine SW.skip ?_
    refine SW.seq ?_
    refine SW.region ?_
    refine SOps.val (v := .string s1) rfl (wantN rfl) (fun _ => by kernel_rfl) ?_
    refine SOps.bytes rfl rfl (wantN rfl) Tryd.underlying9 Tryd.underlying67 Tryd.underlying5 rfl (fun b5 n6 c7 c8 => ?_)
    replace h := h b5 n6 c7 c8
    refine SOps.val (v := sv (⟨some (b5, 0), s1.size, n6⟩ : Sl)) rfl (wantN rfl) (fun _ => by kernel_rfl) ?_
    refine SOps.nil ?_
    refine SW.seq ?_
    refine SW.region ?_
    refine SOps.val (v := sv (⟨some (b5, 0), s1.size, n6⟩ : Sl)) rfl (wantN rfl) (fun _ => by kernel_rfl) ?_
    refine SOps.val (v := .int .i64 x2) rfl (wantN rfl) (fun _ => by kernel_rfl) ?_
    obtain ⟨p9, c10, c11, c12, h⟩ := h
    refine SOps.val (v := pv (some (p9.1, (p9.2 + x2.toNat * 1)))) rfl (wantN rfl) (fun w => ev_iaddr rfl Tryd.underlying67 (size := 1) (by kernel_rfl) rfl rfl c10 c11 c12 w) ?_
    obtain ⟨x13, c14, h⟩ := h
    refine SOps.rd (v := .int .u8 x13) rfl (wantN rfl) (fun w hw => ev_load1 rfl (fun _ => by kernel_rfl) (p := (p9.1, (p9.2 + x2.toNat * 1))) rfl c14 w hw) ?_
    refine SOps.val (v := .int .u8 x3) rfl (wantN rfl) (fun _ => by kernel_rfl) ?_
    refine SOps.val (v := .int .u8 (ibits .xor .u8 x13 x3)) rfl (wantN rfl) (fun _ => by kernel_rfl) ?_
    obtain ⟨p15, c16, c17, c18, h⟩ := h
    refine SOps.val (v := pv (some (p15.1, (p15.2 + x2.toNat * 1)))) rfl (wantN rfl) (fun w => ev_iaddr rfl Tryd.underlying67 (size := 1) (by kernel_rfl) rfl rfl c16 c17 c18 w) ?_
    obtain ⟨c19, h⟩ := h
    refine SOps.storeL (p := (p15.1, (p15.2 + x2.toNat * 1))) (v := .int .u8 (ibits .xor .u8 x13 x3)) (cs := [.int .u8 (ibits .xor .u8 x13 x3)]) rfl rfl (wantN rfl) (size := 1) (by kernel_rfl) rfl rfl rfl rfl (by simp [Value.oneCell', errV_one, pv, sv]) c19 ?_
    refine SOps.nil ?_
    refine SW.seq ?_
    refine SW.region ?_
    refine SOps.val (v := sv (⟨some (b5, 0), s1.size, n6⟩ : Sl)) rfl (wantN rfl) (fun _ => by kernel_rfl) ?_
    obtain ⟨bs20, c21, c22, h⟩ := h
    refine SOps.rd (v := .string (⟨bs20.toArray⟩ : ByteArray)) rfl (wantN rfl) (fun w hw => ev_str rfl Tryd.underlying67 Tryd.underlying5 Tryd.underlying9 rfl c21 c22 w hw) ?_
    refine SOps.val (v := .string (⟨bs20.toArray⟩ : ByteArray)) rfl (wantN rfl) (fun _ => by kernel_rfl) ?_
    refine SOps.nil ?_
    obtain ⟨Hr, hr, h⟩ := h
    exact SW.ret (retQ.mk (.string (⟨bs20.toArray⟩ : ByteArray)) (res1 rfl rfl) hr ⟨(⟨bs20.toArray⟩ : ByteArray), rfl, h⟩)

/-! ### (*lading/disk.Disk).Rot: function 26 -/
def disk_Disk_Rot.j1 (F : Nat) (K : Bool → SH → Prop) (H : SH) : Prop :=
  ∃ Hr, SH.le Hr H ∧ K true Hr
def disk_Disk_Rot.r2 (F : Nat) (K : Bool → SH → Prop) (R2 : Nat → Nat → Int → Int → Int → Int → SH → Prop) (b60 : Nat) (o61 : Nat) (x62 : Int) (x63 : Int) (x64 : Int) (x65 : Int) (H : SH) : Prop :=
  (x65 ≥ 0 →
    ∃ (l67 : Sl),
    SH.has H (b60, (o61 + 6)) (sv l67) ∧
    ∃ p69, l67.a = some p69 ∧ 0 ≤ x65 ∧ x65 < (l67.len : Int) ∧
    ∃ (x73 : Int),
    SH.has H (p69.1, (p69.2 + x65.toNat * 2)) (.int .i64 x73) ∧
    (x73 = x62 →
      ∃ (s76 : ByteArray),
      SH.has H (p69.1, ((p69.2 + x65.toNat * 2) + 1)) (.string s76) ∧
      disk_turned.wp F s76 x63 x64 H (fun s78 H79 =>
        SH.wrs H79 (p69.1, ((p69.2 + x65.toNat * 2) + 1)) 1 ∧
        disk_Disk_Rot.j1 F K  (SH.setl H79 (p69.1, ((p69.2 + x65.toNat * 2) + 1)) [.string s78])
      )
    ) ∧ (¬ (x73 = x62) →
      R2 b60 o61 x62 x63 x64 (w64 (x65 - 1)) H
    )
  ) ∧ (¬ (x65 ≥ 0) →
    disk_Disk_Rot.j1 F K  H
  )
def disk_Disk_Rot.l2 (F : Nat) (K : Bool → SH → Prop) : Nat → Nat → Nat → Int → Int → Int → Int → SH → Prop
  | 0, _, _, _, _, _, _, _ => False
  | k + 1, b60, o61, x62, x63, x64, x65, H => disk_Disk_Rot.r2 F K (disk_Disk_Rot.l2 F K k) b60 o61 x62 x63 x64 x65 H
def disk_Disk_Rot.r1 (F : Nat) (K : Bool → SH → Prop) (R1 : Nat → Nat → Int → Int → Int → Sl → Int → SH → Prop) (b24 : Nat) (o25 : Nat) (x26 : Int) (x27 : Int) (x28 : Int) (l29 : Sl) (x30 : Int) (H : SH) : Prop :=
  (x30 < 2 →
    ∃ p32, l29.a = some p32 ∧ 0 ≤ x30 ∧ x30 < (l29.len : Int) ∧
    ∃ (p36 : Option (Nat × Nat)),
    SH.has H (p32.1, (p32.2 + x30.toNat * 1)) (pv p36) ∧
    (p36 = none →
      False
    ) ∧ (∀ b38 o39, p36 = some (b38, o39) →
      ∃ (l40 : Sl),
      SH.has H (b38, (o39 + 1)) (sv l40) ∧
      ∃ (l42 : Sl),
      SH.has H (b38, (o39 + 1)) (sv l42) ∧
      ∃ p44, l42.a = some p44 ∧ 0 ≤ x26 ∧ x26 < (l42.len : Int) ∧
      ∃ (s48 : ByteArray),
      SH.has H (p44.1, (p44.2 + x26.toNat * 1)) (.string s48) ∧
      ∃ (s50 : ByteArray),
      ( disk_turned.wp F s48 x27 x28 H (fun s50' H' => s50' = s50 ∧ SH.le H H')) ∧
      ∃ p52, l40.a = some p52 ∧ 0 ≤ x26 ∧ x26 < (l40.len : Int) ∧
      SH.wrs H (p52.1, (p52.2 + x26.toNat * 1)) 1 ∧
      R1 b24 o25 x26 x27 x28 l29 (w64 (x30 + 1)) (SH.setl H (p52.1, (p52.2 + x26.toNat * 1)) [.string s50])
    )
  ) ∧ (¬ (x30 < 2) →
    ∃ (l58 : Sl),
    SH.has H (b24, (o25 + 6)) (sv l58) ∧
    disk_Disk_Rot.l2 F K F b24 o25 x26 x27 x28 (w64 ((l58.len : Int) - 1)) H
  )
def disk_Disk_Rot.l1 (F : Nat) (K : Bool → SH → Prop) : Nat → Nat → Nat → Int → Int → Int → Sl → Int → SH → Prop
  | 0, _, _, _, _, _, _, _, _ => False
  | k + 1, b24, o25, x26, x27, x28, l29, x30, H => disk_Disk_Rot.r1 F K (disk_Disk_Rot.l1 F K k) b24 o25 x26 x27 x28 l29 x30 H
def disk_Disk_Rot.wp (F : Nat) (p1 : Option (Nat × Nat)) (x2 : Int) (x3 : Int) (x4 : Int) (H : SH) (K : Bool → SH → Prop) : Prop :=
  (p1 = none →
    ∃ Hr, SH.le Hr H ∧ K false Hr
  ) ∧ (∀ b5 o6, p1 = some (b5, o6) →
    (x2 < 0 →
      ∃ Hr, SH.le Hr H ∧ K false Hr
    ) ∧ (¬ (x2 < 0) →
      ∃ (l8 : Sl),
      SH.has H (b5, ((o6 + 2) + 1)) (sv l8) ∧
      (x2 ≥ (l8.len : Int) →
        ∃ Hr, SH.le Hr H ∧ K false Hr
      ) ∧ (¬ (x2 ≥ (l8.len : Int)) →
        (x3 < 0 →
          ∃ Hr, SH.le Hr H ∧ K false Hr
        ) ∧ (¬ (x3 < 0) →
          ∃ (l12 : Sl),
          SH.has H (b5, ((o6 + 2) + 1)) (sv l12) ∧
          ∃ p14, l12.a = some p14 ∧ 0 ≤ x2 ∧ x2 < (l12.len : Int) ∧
          ∃ (s18 : ByteArray),
          SH.has H (p14.1, (p14.2 + x2.toNat * 1)) (.string s18) ∧
          (x3 ≥ (s18.size : Int) →
            ∃ Hr, SH.le Hr H ∧ K false Hr
          ) ∧ (¬ (x3 ≥ (s18.size : Int)) →
            ∀ b21, H b21 = none → 
            disk_Disk_Rot.l1 F K F b5 o6 x2 x3 x4 (⟨some (b21, 0), 2, 2⟩ : Sl) 0 (SH.upd H b21 (⟨[pv (some (b5, (o6 + 2))), pv (some (b5, (o6 + 4)))], 86, false, 2⟩ : AO))
          )
        )
      )
    )
  )
set_option maxHeartbeats 8000000 in
theorem disk_Disk_Rot.sound (F : Nat) (p1 : Option (Nat × Nat)) (x2 : Int) (x3 : Int) (x4 : Int) (H : SH) (K : Bool → SH → Prop) (h : disk_Disk_Rot.wp F p1 x2 x3 x4 H K) : SCalls Tryd.prog 26 #[pv p1, .int .i64 x2, .int .i64 x3, .int .u8 x4] H (fun v H' => ∃ (q87 : Bool), v = .bool q87 ∧ K q87 H') := by
  unfold disk_Disk_Rot.wp at h
  refine SCalls.body Tryd.func26 rfl (Nat.le_of_ble_eq_true rfl) ?_
  refine SW.seq ?_
  refine SW.region ?_
  refine SOps.val (v := .bool false) rfl (wantN rfl) (fun _ => by kernel_rfl) ?_
  refine SOps.nil ?_
  refine SW.seq ?_
  refine SW.seq ?_
  refine SW.region ?_
  refine SOps.val (v := pv p1) rfl (wantN rfl) (fun _ => by kernel_rfl) ?_
  rcases p1 with _ | ⟨b5, o6⟩
  · replace h := h.1 rfl
    refine SOps.val (v := .bool true) rfl (wantN rfl) (fun _ => by kernel_rfl) ?_
    refine SOps.val (v := .bool true) rfl (wantN rfl) (fun _ => by kernel_rfl) ?_
    refine SOps.off rfl (wantX (c := true) rfl rfl rfl rfl) ?_
    refine SOps.off rfl (wantX (c := true) rfl rfl rfl rfl) ?_
    refine SOps.val (v := .bool true) rfl (wantN rfl) (fun w => ev_pickT (v := .bool true) rfl (t := true) rfl rfl rfl w) ?_
    refine SOps.val (v := .bool true) rfl (wantN rfl) (fun _ => by kernel_rfl) ?_
    refine SOps.off rfl (wantX (c := true) rfl rfl rfl rfl) ?_
    refine SOps.off rfl (wantX (c := true) rfl rfl rfl rfl) ?_
    refine SOps.off rfl (wantX (c := true) rfl rfl rfl rfl) ?_
    refine SOps.off rfl (wantX (c := true) rfl rfl rfl rfl) ?_
    refine SOps.off rfl (wantX (c := true) rfl rfl rfl rfl) ?_
    refine SOps.off rfl (wantX (c := true) rfl rfl rfl rfl) ?_
    refine SOps.off rfl (wantX (c := true) rfl rfl rfl rfl) ?_
    refine SOps.off rfl (wantX (c := true) rfl rfl rfl rfl) ?_
    refine SOps.val (v := .bool true) rfl (wantN rfl) (fun w => ev_pickT (v := .bool true) rfl (t := true) rfl rfl rfl w) ?_
    refine SOps.val (v := .bool true) rfl (wantN rfl) (fun _ => by kernel_rfl) ?_
    refine SOps.off rfl (wantX (c := true) rfl rfl rfl rfl) ?_
    refine SOps.off rfl (wantX (c := true) rfl rfl rfl rfl) ?_
    refine SOps.val (v := .bool true) rfl (wantN rfl) (fun w => ev_pickT (v := .bool true) rfl (t := true) rfl rfl rfl w) ?_
    refine SOps.val (v := .bool true) rfl (wantN rfl) (fun _ => by kernel_rfl) ?_
    refine SOps.off rfl (wantX (c := true) rfl rfl rfl rfl) ?_
    refine SOps.off rfl (wantX (c := true) rfl rfl rfl rfl) ?_
    refine SOps.off rfl (wantX (c := true) rfl rfl rfl rfl) ?_
    refine SOps.off rfl (wantX (c := true) rfl rfl rfl rfl) ?_
    refine SOps.off rfl (wantX (c := true) rfl rfl rfl rfl) ?_
    refine SOps.off rfl (wantX (c := true) rfl rfl rfl rfl) ?_
    refine SOps.off rfl (wantX (c := true) rfl rfl rfl rfl) ?_
    refine SOps.off rfl (wantX (c := true) rfl rfl rfl rfl) ?_
    refine SOps.off rfl (wantX (c := true) rfl rfl rfl rfl) ?_
    refine SOps.off rfl (wantX (c := true) rfl rfl rfl rfl) ?_
    refine SOps.off rfl (wantX (c := true) rfl rfl rfl rfl) ?_
    refine SOps.val (v := .bool true) rfl (wantN rfl) (fun w => ev_pickT (v := .bool true) rfl (t := true) rfl rfl rfl w) ?_
    refine SOps.nil ?_
    refine SW.cond_t (t := true) rfl rfl ?_
    refine SW.seq ?_
    refine SW.region ?_
    refine SOps.val (v := .bool false) rfl (wantN rfl) (fun _ => by kernel_rfl) ?_
    refine SOps.nil ?_
    obtain ⟨Hr, hr, h⟩ := h
    exact SW.ret (retQ.mk (.bool false) (res1 rfl rfl) hr ⟨false, rfl, h⟩)
  · replace h := h.2 b5 o6 rfl
    refine SOps.val (v := .bool false) rfl (wantN rfl) (fun _ => by kernel_rfl) ?_
    refine SOps.val (v := .bool false) rfl (wantN rfl) (fun _ => by kernel_rfl) ?_
    refine SOps.val (v := .int .i64 x2) rfl (wantY (c := false) rfl rfl rfl rfl) (fun _ => by kernel_rfl) ?_
    refine SOps.val (v := .bool (decide (x2 < 0))) rfl (wantY (c := false) rfl rfl rfl rfl) (fun _ => by kernel_rfl) ?_
    refine SOps.val (v := .bool (decide (x2 < 0))) rfl (wantN rfl) (fun w => ev_pickF (v := .bool (decide (x2 < 0))) rfl (t := false) rfl rfl rfl w) ?_
    refine SOps.val (v := .bool (decide (x2 < 0))) rfl (wantN rfl) (fun _ => by kernel_rfl) ?_
    by_cases c7 : x2 < 0
    · replace h := h.1 c7
      have dc7 : (decide (x2 < 0)) = true := (decide_eq_true c7)
      refine SOps.off rfl (wantX (c := decide (x2 < 0)) rfl rfl rfl dc7) ?_
      refine SOps.off rfl (wantX (c := decide (x2 < 0)) rfl rfl rfl dc7) ?_
      refine SOps.off rfl (wantX (c := decide (x2 < 0)) rfl rfl rfl dc7) ?_
      refine SOps.off rfl (wantX (c := decide (x2 < 0)) rfl rfl rfl dc7) ?_
      refine SOps.off rfl (wantX (c := decide (x2 < 0)) rfl rfl rfl dc7) ?_
      refine SOps.off rfl (wantX (c := decide (x2 < 0)) rfl rfl rfl dc7) ?_
      refine SOps.off rfl (wantX (c := decide (x2 < 0)) rfl rfl rfl dc7) ?_
      refine SOps.off rfl (wantX (c := decide (x2 < 0)) rfl rfl rfl dc7) ?_
      refine SOps.val (v := .bool true) rfl (wantN rfl) (fun w => ev_pickT (v := .bool true) rfl (t := decide (x2 < 0)) rfl dc7 rfl w) ?_
      refine SOps.val (v := .bool true) rfl (wantN rfl) (fun _ => by kernel_rfl) ?_
      refine SOps.off rfl (wantX (c := true) rfl rfl rfl rfl) ?_
      refine SOps.off rfl (wantX (c := true) rfl rfl rfl rfl) ?_
      refine SOps.val (v := .bool true) rfl (wantN rfl) (fun w => ev_pickT (v := .bool true) rfl (t := true) rfl rfl rfl w) ?_
      refine SOps.val (v := .bool true) rfl (wantN rfl) (fun _ => by kernel_rfl) ?_
      refine SOps.off rfl (wantX (c := true) rfl rfl rfl rfl) ?_
      refine SOps.off rfl (wantX (c := true) rfl rfl rfl rfl) ?_
      refine SOps.off rfl (wantX (c := true) rfl rfl rfl rfl) ?_
      refine SOps.off rfl (wantX (c := true) rfl rfl rfl rfl) ?_
      refine SOps.off rfl (wantX (c := true) rfl rfl rfl rfl) ?_
      refine SOps.off rfl (wantX (c := true) rfl rfl rfl rfl) ?_
      refine SOps.off rfl (wantX (c := true) rfl rfl rfl rfl) ?_
      refine SOps.off rfl (wantX (c := true) rfl rfl rfl rfl) ?_
      refine SOps.off rfl (wantX (c := true) rfl rfl rfl rfl) ?_
      refine SOps.off rfl (wantX (c := true) rfl rfl rfl rfl) ?_
      refine SOps.off rfl (wantX (c := true) rfl rfl rfl rfl) ?_
      refine SOps.val (v := .bool true) rfl (wantN rfl) (fun w => ev_pickT (v := .bool true) rfl (t := true) rfl rfl rfl w) ?_
      refine SOps.nil ?_
      refine SW.cond_t (t := true) rfl rfl ?_
      refine SW.seq ?_
      refine SW.region ?_
      refine SOps.val (v := .bool false) rfl (wantN rfl) (fun _ => by kernel_rfl) ?_
      refine SOps.nil ?_
      obtain ⟨Hr, hr, h⟩ := h
      exact SW.ret (retQ.mk (.bool false) (res1 rfl rfl) hr ⟨false, rfl, h⟩)
    · replace h := h.2 c7
      have dc7 : (decide (x2 < 0)) = false := (decide_eq_false c7)
      refine SOps.val (v := .int .i64 x2) rfl (wantY (c := decide (x2 < 0)) rfl rfl rfl dc7) (fun _ => by kernel_rfl) ?_
      refine SOps.val (v := pv (some (b5, o6))) rfl (wantY (c := decide (x2 < 0)) rfl rfl rfl dc7) (fun _ => by kernel_rfl) ?_
      refine SOps.val (v := pv (some (b5, o6))) rfl (wantY (c := decide (x2 < 0)) rfl rfl rfl dc7) (fun _ => by kernel_rfl) ?_
      refine SOps.val (v := pv (some (b5, (o6 + 2)))) rfl (wantY (c := decide (x2 < 0)) rfl rfl rfl dc7) (fun _ => by kernel_rfl) ?_
      refine SOps.val (v := pv (some (b5, ((o6 + 2) + 1)))) rfl (wantY (c := decide (x2 < 0)) rfl rfl rfl dc7) (fun _ => by kernel_rfl) ?_
      obtain ⟨l8, c9, h⟩ := h
      refine SOps.rd (v := sv l8) rfl (wantY (c := decide (x2 < 0)) rfl rfl rfl dc7) (fun w hw => ev_load1 rfl (fun _ => by kernel_rfl) (p := (b5, ((o6 + 2) + 1))) rfl c9 w hw) ?_
      refine SOps.val (v := .int .i64 (l8.len : Int)) rfl (wantY (c := decide (x2 < 0)) rfl rfl rfl dc7) (fun _ => by kernel_rfl) ?_
      refine SOps.val (v := .bool (decide (x2 ≥ (l8.len : Int)))) rfl (wantY (c := decide (x2 < 0)) rfl rfl rfl dc7) (fun _ => by kernel_rfl) ?_
      refine SOps.val (v := .bool (decide (x2 ≥ (l8.len : Int)))) rfl (wantN rfl) (fun w => ev_pickF (v := .bool (decide (x2 ≥ (l8.len : Int)))) rfl (t := decide (x2 < 0)) rfl dc7 rfl w) ?_
      refine SOps.val (v := .bool (decide (x2 ≥ (l8.len : Int)))) rfl (wantN rfl) (fun _ => by kernel_rfl) ?_
      by_cases c10 : x2 ≥ (l8.len : Int)
      · replace h := h.1 c10
        have dc10 : (decide (x2 ≥ (l8.len : Int))) = true := (decide_eq_true c10)
        refine SOps.off rfl (wantX (c := decide (x2 ≥ (l8.len : Int))) rfl rfl rfl dc10) ?_
        refine SOps.off rfl (wantX (c := decide (x2 ≥ (l8.len : Int))) rfl rfl rfl dc10) ?_
        refine SOps.val (v := .bool true) rfl (wantN rfl) (fun w => ev_pickT (v := .bool true) rfl (t := decide (x2 ≥ (l8.len : Int))) rfl dc10 rfl w) ?_
        refine SOps.val (v := .bool true) rfl (wantN rfl) (fun _ => by kernel_rfl) ?_
        refine SOps.off rfl (wantX (c := true) rfl rfl rfl rfl) ?_
        refine SOps.off rfl (wantX (c := true) rfl rfl rfl rfl) ?_
        refine SOps.off rfl (wantX (c := true) rfl rfl rfl rfl) ?_
        refine SOps.off rfl (wantX (c := true) rfl rfl rfl rfl) ?_
        refine SOps.off rfl (wantX (c := true) rfl rfl rfl rfl) ?_
        refine SOps.off rfl (wantX (c := true) rfl rfl rfl rfl) ?_
        refine SOps.off rfl (wantX (c := true) rfl rfl rfl rfl) ?_
        refine SOps.off rfl (wantX (c := true) rfl rfl rfl rfl) ?_
        refine SOps.off rfl (wantX (c := true) rfl rfl rfl rfl) ?_
        refine SOps.off rfl (wantX (c := true) rfl rfl rfl rfl) ?_
        refine SOps.off rfl (wantX (c := true) rfl rfl rfl rfl) ?_
        refine SOps.val (v := .bool true) rfl (wantN rfl) (fun w => ev_pickT (v := .bool true) rfl (t := true) rfl rfl rfl w) ?_
        refine SOps.nil ?_
        refine SW.cond_t (t := true) rfl rfl ?_
        refine SW.seq ?_
        refine SW.region ?_
        refine SOps.val (v := .bool false) rfl (wantN rfl) (fun _ => by kernel_rfl) ?_
        refine SOps.nil ?_
        obtain ⟨Hr, hr, h⟩ := h
        exact SW.ret (retQ.mk (.bool false) (res1 rfl rfl) hr ⟨false, rfl, h⟩)
      · replace h := h.2 c10
        have dc10 : (decide (x2 ≥ (l8.len : Int))) = false := (decide_eq_false c10)
        refine SOps.val (v := .int .i64 x3) rfl (wantY (c := decide (x2 ≥ (l8.len : Int))) rfl rfl rfl dc10) (fun _ => by kernel_rfl) ?_
        refine SOps.val (v := .bool (decide (x3 < 0))) rfl (wantY (c := decide (x2 ≥ (l8.len : Int))) rfl rfl rfl dc10) (fun _ => by kernel_rfl) ?_
        refine SOps.val (v := .bool (decide (x3 < 0))) rfl (wantN rfl) (fun w => ev_pickF (v := .bool (decide (x3 < 0))) rfl (t := decide (x2 ≥ (l8.len : Int))) rfl dc10 rfl w) ?_
        refine SOps.val (v := .bool (decide (x3 < 0))) rfl (wantN rfl) (fun _ => by kernel_rfl) ?_
        by_cases c11 : x3 < 0
        · replace h := h.1 c11
          have dc11 : (decide (x3 < 0)) = true := (decide_eq_true c11)
          refine SOps.off rfl (wantX (c := decide (x3 < 0)) rfl rfl rfl dc11) ?_
          refine SOps.off rfl (wantX (c := decide (x3 < 0)) rfl rfl rfl dc11) ?_
          refine SOps.off rfl (wantX (c := decide (x3 < 0)) rfl rfl rfl dc11) ?_
          refine SOps.off rfl (wantX (c := decide (x3 < 0)) rfl rfl rfl dc11) ?_
          refine SOps.off rfl (wantX (c := decide (x3 < 0)) rfl rfl rfl dc11) ?_
          refine SOps.off rfl (wantX (c := decide (x3 < 0)) rfl rfl rfl dc11) ?_
          refine SOps.off rfl (wantX (c := decide (x3 < 0)) rfl rfl rfl dc11) ?_
          refine SOps.off rfl (wantX (c := decide (x3 < 0)) rfl rfl rfl dc11) ?_
          refine SOps.off rfl (wantX (c := decide (x3 < 0)) rfl rfl rfl dc11) ?_
          refine SOps.off rfl (wantX (c := decide (x3 < 0)) rfl rfl rfl dc11) ?_
          refine SOps.off rfl (wantX (c := decide (x3 < 0)) rfl rfl rfl dc11) ?_
          refine SOps.val (v := .bool true) rfl (wantN rfl) (fun w => ev_pickT (v := .bool true) rfl (t := decide (x3 < 0)) rfl dc11 rfl w) ?_
          refine SOps.nil ?_
          refine SW.cond_t (t := true) rfl rfl ?_
          refine SW.seq ?_
          refine SW.region ?_
          refine SOps.val (v := .bool false) rfl (wantN rfl) (fun _ => by kernel_rfl) ?_
          refine SOps.nil ?_
          obtain ⟨Hr, hr, h⟩ := h
          exact SW.ret (retQ.mk (.bool false) (res1 rfl rfl) hr ⟨false, rfl, h⟩)
        · replace h := h.2 c11
          have dc11 : (decide (x3 < 0)) = false := (decide_eq_false c11)
          refine SOps.val (v := .int .i64 x3) rfl (wantY (c := decide (x3 < 0)) rfl rfl rfl dc11) (fun _ => by kernel_rfl) ?_
          refine SOps.val (v := pv (some (b5, o6))) rfl (wantY (c := decide (x3 < 0)) rfl rfl rfl dc11) (fun _ => by kernel_rfl) ?_
          refine SOps.val (v := pv (some (b5, o6))) rfl (wantY (c := decide (x3 < 0)) rfl rfl rfl dc11) (fun _ => by kernel_rfl) ?_
          refine SOps.val (v := pv (some (b5, (o6 + 2)))) rfl (wantY (c := decide (x3 < 0)) rfl rfl rfl dc11) (fun _ => by kernel_rfl) ?_
          refine SOps.val (v := pv (some (b5, ((o6 + 2) + 1)))) rfl (wantY (c := decide (x3 < 0)) rfl rfl rfl dc11) (fun _ => by kernel_rfl) ?_
          obtain ⟨l12, c13, h⟩ := h
          refine SOps.rd (v := sv l12) rfl (wantY (c := decide (x3 < 0)) rfl rfl rfl dc11) (fun w hw => ev_load1 rfl (fun _ => by kernel_rfl) (p := (b5, ((o6 + 2) + 1))) rfl c13 w hw) ?_
          refine SOps.val (v := .int .i64 x2) rfl (wantY (c := decide (x3 < 0)) rfl rfl rfl dc11) (fun _ => by kernel_rfl) ?_
          obtain ⟨p14, c15, c16, c17, h⟩ := h
          refine SOps.val (v := pv (some (p14.1, (p14.2 + x2.toNat * 1)))) rfl (wantY (c := decide (x3 < 0)) rfl rfl rfl dc11) (fun w => ev_iaddr rfl Tryd.underlying55 (size := 1) (by kernel_rfl) rfl rfl c15 c16 c17 w) ?_
          obtain ⟨s18, c19, h⟩ := h
          refine SOps.rd (v := .string s18) rfl (wantY (c := decide (x3 < 0)) rfl rfl rfl dc11) (fun w hw => ev_load1 rfl (fun _ => by kernel_rfl) (p := (p14.1, (p14.2 + x2.toNat * 1))) rfl c19 w hw) ?_
          refine SOps.val (v := .int .i64 (s18.size : Int)) rfl (wantY (c := decide (x3 < 0)) rfl rfl rfl dc11) (fun _ => by kernel_rfl) ?_
          refine SOps.val (v := .bool (decide (x3 ≥ (s18.size : Int)))) rfl (wantY (c := decide (x3 < 0)) rfl rfl rfl dc11) (fun _ => by kernel_rfl) ?_
          refine SOps.val (v := .bool (decide (x3 ≥ (s18.size : Int)))) rfl (wantN rfl) (fun w => ev_pickF (v := .bool (decide (x3 ≥ (s18.size : Int)))) rfl (t := decide (x3 < 0)) rfl dc11 rfl w) ?_
          refine SOps.nil ?_
          by_cases c20 : x3 ≥ (s18.size : Int)
          · replace h := h.1 c20
            have dc20 : (decide (x3 ≥ (s18.size : Int))) = true := (decide_eq_true c20)
            refine SW.cond_t (t := decide (x3 ≥ (s18.size : Int))) rfl dc20 ?_
            refine SW.seq ?_
            refine SW.region ?_
            refine SOps.val (v := .bool false) rfl (wantN rfl) (fun _ => by kernel_rfl) ?_
            refine SOps.nil ?_
            obtain ⟨Hr, hr, h⟩ := h
            exact SW.ret (retQ.mk (.bool false) (res1 rfl rfl) hr ⟨false, rfl, h⟩)
          · replace h := h.2 c20
            have dc20 : (decide (x3 ≥ (s18.size : Int))) = false := (decide_eq_false c20)
            refine SW.cond_f (t := decide (x3 ≥ (s18.size : Int))) rfl dc20 ?_
            refine SW.skip ?_
            refine SW.seq ?_
            refine SW.seq ?_
            refine SW.drawA [.val (pv (some (b5, o6))), .val (pv (some (b5, o6))), .val (pv (some (b5, (o6 + 2)))), .val (pv (some (b5, o6))), .val (pv (some (b5, o6))), .val (pv (some (b5, (o6 + 4)))), .fresh 6 (fun b c => sv ⟨some (b, 0), 2, 2⟩) (fun c => (⟨[pv (some (b5, (o6 + 2))), pv (some (b5, (o6 + 4)))], 86, false, 2⟩ : AO)) (fun _ => True), .val (.int .i64 2), .val (.int .i64 0)] (by kernel_rfl) (by kernel_rfl) (And.intro ?_ (And.intro ?_ (And.intro ?_ (And.intro ?_ (And.intro ?_ (And.intro ?_ (And.intro ?_ (And.intro ?_ (And.intro ?_ (trivial)))))))))) ?_
            · clear h
              intro fr' T' H' hle hs hA
              have a0 : fr' 0 = pv (some (b5, o6)) := hs 0 (by kernel_rfl)
              obtain ⟨g', hg'⟩ : ∃ g' : Fr, fr' = g'.upds [(0, pv (some (b5, o6)))] := ⟨_, Fr.upds_self _ _ ⟨a0, trivial⟩⟩
              subst hg'
              exact SA.val (v := pv (some (b5, o6))) rfl (wantN rfl) (fun _ => by kernel_rfl)
            · clear h
              intro fr' T' H' hle hs hA
              have a46 : fr' 46 = pv (some (b5, o6)) := hA 0 (by kernel_rfl)
              obtain ⟨g', hg'⟩ : ∃ g' : Fr, fr' = g'.upds [(46, pv (some (b5, o6)))] := ⟨_, Fr.upds_self _ _ ⟨a46, trivial⟩⟩
              subst hg'
              exact SA.val (v := pv (some (b5, o6))) rfl (wantN rfl) (fun _ => by kernel_rfl)
            · clear h
              intro fr' T' H' hle hs hA
              have a47 : fr' 47 = pv (some (b5, o6)) := hA 1 (by kernel_rfl)
              obtain ⟨g', hg'⟩ : ∃ g' : Fr, fr' = g'.upds [(47, pv (some (b5, o6)))] := ⟨_, Fr.upds_self _ _ ⟨a47, trivial⟩⟩
              subst hg'
              exact SA.val (v := pv (some (b5, (o6 + 2)))) rfl (wantN rfl) (fun _ => by kernel_rfl)
            · clear h
              intro fr' T' H' hle hs hA
              have a0 : fr' 0 = pv (some (b5, o6)) := hs 0 (by kernel_rfl)
              obtain ⟨g', hg'⟩ : ∃ g' : Fr, fr' = g'.upds [(0, pv (some (b5, o6)))] := ⟨_, Fr.upds_self _ _ ⟨a0, trivial⟩⟩
              subst hg'
              exact SA.val (v := pv (some (b5, o6))) rfl (wantN rfl) (fun _ => by kernel_rfl)
            · clear h
              intro fr' T' H' hle hs hA
              have a49 : fr' 49 = pv (some (b5, o6)) := hA 3 (by kernel_rfl)
              obtain ⟨g', hg'⟩ : ∃ g' : Fr, fr' = g'.upds [(49, pv (some (b5, o6)))] := ⟨_, Fr.upds_self _ _ ⟨a49, trivial⟩⟩
              subst hg'
              exact SA.val (v := pv (some (b5, o6))) rfl (wantN rfl) (fun _ => by kernel_rfl)
            · clear h
              intro fr' T' H' hle hs hA
              have a50 : fr' 50 = pv (some (b5, o6)) := hA 4 (by kernel_rfl)
              obtain ⟨g', hg'⟩ : ∃ g' : Fr, fr' = g'.upds [(50, pv (some (b5, o6)))] := ⟨_, Fr.upds_self _ _ ⟨a50, trivial⟩⟩
              subst hg'
              exact SA.val (v := pv (some (b5, (o6 + 4)))) rfl (wantN rfl) (fun _ => by kernel_rfl)
            · clear h
              intro fr' T' H' hle hs hA
              have a48 : fr' 48 = pv (some (b5, (o6 + 2))) := hA 2 (by kernel_rfl)
              have a51 : fr' 51 = pv (some (b5, (o6 + 4))) := hA 5 (by kernel_rfl)
              obtain ⟨g', hg'⟩ : ∃ g' : Fr, fr' = g'.upds [(48, pv (some (b5, (o6 + 2)))), (51, pv (some (b5, (o6 + 4))))] := ⟨_, Fr.upds_self _ _ ⟨a48, a51, trivial⟩⟩
              subst hg'
              exact SA.fresh hle (fun h => SOps.lit (E := 86) (cs := #[pv (some (b5, (o6 + 2))), pv (some (b5, (o6 + 4)))]) rfl rfl (wantN rfl) (fun _ => by kernel_rfl) (fun b c => h b 0 c trivial))
            · clear h
              intro fr' T' H' hle hs hA
              obtain ⟨b21, n22, a52, nb21, kb21, tb21, ob21⟩ := hA 6 (by kernel_rfl)
              obtain ⟨g', hg'⟩ : ∃ g' : Fr, fr' = g'.upds [(52, sv (⟨some (b21, 0), 2, 2⟩ : Sl))] := ⟨_, Fr.upds_self _ _ ⟨a52, trivial⟩⟩
              subst hg'
              exact SA.val (v := .int .i64 2) rfl (wantN rfl) (fun _ => by kernel_rfl)
            · clear h
              intro fr' T' H' hle hs hA
              exact SA.val (v := .int .i64 0) rfl (wantN rfl) (fun _ => by kernel_rfl)
            · intro fr' T' H' hle hs hA
              have a0 : fr' 0 = pv (some (b5, o6)) := hs 0 (by kernel_rfl)
              have a1 : fr' 1 = (.int .i64 x2 : Value) := hs 1 (by kernel_rfl)
              have a2 : fr' 2 = (.int .i64 x3 : Value) := hs 2 (by kernel_rfl)
              have a3 : fr' 3 = (.int .u8 x4 : Value) := hs 3 (by kernel_rfl)
              obtain ⟨b21, n22, a52, nb21, kb21, tb21, ob21⟩ := hA 6 (Nat.le_of_ble_eq_true rfl)
              have a53 : fr' 53 = (.int .i64 2 : Value) := hA 7 (Nat.le_of_ble_eq_true rfl)
              have a54 : fr' 54 = (.int .i64 0 : Value) := hA 8 (Nat.le_of_ble_eq_true rfl)
              obtain ⟨g', hg'⟩ : ∃ g' : Fr, fr' = g'.upds [(0, pv (some (b5, o6))), (1, (.int .i64 x2 : Value)), (2, (.int .i64 x3 : Value)), (3, (.int .u8 x4 : Value)), (52, sv (⟨some (b21, 0), 2, 2⟩ : Sl)), (53, (.int .i64 2 : Value)), (54, (.int .i64 0 : Value))] := ⟨_, Fr.upds_self _ _ ⟨a0, a1, a2, a3, a52, a53, a54, trivial⟩⟩
              subst hg'
              refine SOps.forget (SH.upd H b21 (⟨[pv (some (b5, (o6 + 2))), pv (some (b5, (o6 + 4)))], 86, false, 2⟩ : AO)) (SH.le.upd_in hle kb21) ?_
              replace h := h b21 nb21
              clear hle hs hA
              refine SOps.nil ?_
              refine SW.block ?_
              refine SW.loop (fun k1 fr H => ∃ (g : Fr) (b24 : Nat) (o25 : Nat) (x26 : Int) (x27 : Int) (x28 : Int) (l29 : Sl) (x30 : Int), fr = g.upds [(0, pv (some (b24, o25))), (1, (.int .i64 x26 : Value)), (2, (.int .i64 x27 : Value)), (3, (.int .u8 x28 : Value)), (52, sv l29), (53, (.int .i64 2 : Value)), (54, (.int .i64 x30 : Value))] ∧ disk_Disk_Rot.l1 F K k1 b24 o25 x26 x27 x28 l29 x30 H) F ⟨_, b5, o6, x2, x3, x4, (⟨some (b21, 0), 2, 2⟩ : Sl), 0, (Fr.upds_self _ _ ⟨rfl, rfl, rfl, rfl, rfl, rfl, rfl, trivial⟩), h⟩ ?_
              clear h
              rintro k1 fr H ⟨g, b24, o25, x26, x27, x28, l29, x30, rfl, h⟩
              cases k1 with
              | zero => exact h.elim
              | succ k1 =>
                replace h : disk_Disk_Rot.r1 F K (disk_Disk_Rot.l1 F K k1) b24 o25 x26 x27 x28 l29 x30 H := h
                unfold disk_Disk_Rot.r1 at h
                refine SW.seq ?_
                refine SW.region ?_
                refine SOps.val (v := .bool (decide (x30 < 2))) rfl (wantN rfl) (fun _ => by kernel_rfl) ?_
                refine SOps.nil ?_
                refine SW.seq ?_
                by_cases c31 : x30 < 2
                · replace h := h.1 c31
                  have dc31 : (decide (x30 < 2)) = true := (decide_eq_true c31)
                  refine SW.cond_t (t := decide (x30 < 2)) rfl dc31 ?_
                  refine SW.skip ?_
                  refine SW.seq ?_
                  refine SW.block ?_
                  refine SW.seq ?_
                  refine SW.region ?_
                  obtain ⟨p32, c33, c34, c35, h⟩ := h
                  refine SOps.val (v := pv (some (p32.1, (p32.2 + x30.toNat * 1)))) rfl (wantN rfl) (fun w => ev_iaddr rfl Tryd.underlying87 (size := 1) (by kernel_rfl) rfl rfl c33 c34 c35 w) ?_
                  obtain ⟨p36, c37, h⟩ := h
                  refine SOps.rd (v := pv p36) rfl (wantN rfl) (fun w hw => ev_load1 rfl (fun _ => by kernel_rfl) (p := (p32.1, (p32.2 + x30.toNat * 1))) rfl c37 w hw) ?_
                  refine SOps.val (v := pv p36) rfl (wantN rfl) (fun _ => by kernel_rfl) ?_
                  refine SOps.nil ?_
                  rcases p36 with _ | ⟨b38, o39⟩
                  · replace h := h.1 rfl
                    exact h.elim
                  · replace h := h.2 b38 o39 rfl
                    obtain ⟨l40, c41, h⟩ := h
                    obtain ⟨l42, c43, h⟩ := h
                    obtain ⟨p44, c45, c46, c47, h⟩ := h
                    obtain ⟨s48, c49, h⟩ := h
                    obtain ⟨s50, c51, h⟩ := h
                    obtain ⟨p52, c53, c54, c55, h⟩ := h
                    refine SW.drawA [.val (pv (some (b38, o39))), .val (pv (some (b38, o39))), .val (pv (some (b38, (o39 + 1)))), .val (sv l40), .val (.int .i64 x26), .val (pv (some (b38, o39))), .val (pv (some (b38, o39))), .val (pv (some (b38, (o39 + 1)))), .val (sv l42), .val (.int .i64 x26), .val (pv (some (p44.1, (p44.2 + x26.toNat * 1)))), .val (.string s48), .val (.int .i64 x27), .val (.int .u8 x28), .val (.string s50), .val (pv (some (p52.1, (p52.2 + x26.toNat * 1))))] (by kernel_rfl) (by kernel_rfl) (And.intro ?_ (And.intro ?_ (And.intro ?_ (And.intro ?_ (And.intro ?_ (And.intro ?_ (And.intro ?_ (And.intro ?_ (And.intro ?_ (And.intro ?_ (And.intro ?_ (And.intro ?_ (And.intro ?_ (And.intro ?_ (And.intro ?_ (And.intro ?_ (trivial))))))))))))))))) ?_
                    · clear h
                      intro fr' T' H' hle hs hA
                      have a10 : fr' 10 = pv (some (b38, o39)) := hs 10 (by kernel_rfl)
                      obtain ⟨g', hg'⟩ : ∃ g' : Fr, fr' = g'.upds [(10, pv (some (b38, o39)))] := ⟨_, Fr.upds_self _ _ ⟨a10, trivial⟩⟩
                      subst hg'
                      exact SA.val (v := pv (some (b38, o39))) rfl (wantN rfl) (fun _ => by kernel_rfl)
                    · clear h
                      intro fr' T' H' hle hs hA
                      have a58 : fr' 58 = pv (some (b38, o39)) := hA 0 (by kernel_rfl)
                      obtain ⟨g', hg'⟩ : ∃ g' : Fr, fr' = g'.upds [(58, pv (some (b38, o39)))] := ⟨_, Fr.upds_self _ _ ⟨a58, trivial⟩⟩
                      subst hg'
                      exact SA.val (v := pv (some (b38, o39))) rfl (wantN rfl) (fun _ => by kernel_rfl)
                    · clear h
                      intro fr' T' H' hle hs hA
                      have a59 : fr' 59 = pv (some (b38, o39)) := hA 1 (by kernel_rfl)
                      obtain ⟨g', hg'⟩ : ∃ g' : Fr, fr' = g'.upds [(59, pv (some (b38, o39)))] := ⟨_, Fr.upds_self _ _ ⟨a59, trivial⟩⟩
                      subst hg'
                      exact SA.val (v := pv (some (b38, (o39 + 1)))) rfl (wantN rfl) (fun _ => by kernel_rfl)
                    · clear h
                      intro fr' T' H' hle hs hA
                      have a60 : fr' 60 = pv (some (b38, (o39 + 1))) := hA 2 (by kernel_rfl)
                      obtain ⟨g', hg'⟩ : ∃ g' : Fr, fr' = g'.upds [(60, pv (some (b38, (o39 + 1))))] := ⟨_, Fr.upds_self _ _ ⟨a60, trivial⟩⟩
                      subst hg'
                      exact SA.rd hle (v := sv l40) rfl (wantN rfl) (fun w hw => ev_load1 rfl (fun _ => by kernel_rfl) (p := (b38, (o39 + 1))) rfl c41 w hw)
                    · clear h
                      intro fr' T' H' hle hs hA
                      have a1 : fr' 1 = (.int .i64 x26 : Value) := hs 1 (by kernel_rfl)
                      obtain ⟨g', hg'⟩ : ∃ g' : Fr, fr' = g'.upds [(1, (.int .i64 x26 : Value))] := ⟨_, Fr.upds_self _ _ ⟨a1, trivial⟩⟩
                      subst hg'
                      exact SA.val (v := .int .i64 x26) rfl (wantN rfl) (fun _ => by kernel_rfl)
                    · clear h
                      intro fr' T' H' hle hs hA
                      have a10 : fr' 10 = pv (some (b38, o39)) := hs 10 (by kernel_rfl)
                      obtain ⟨g', hg'⟩ : ∃ g' : Fr, fr' = g'.upds [(10, pv (some (b38, o39)))] := ⟨_, Fr.upds_self _ _ ⟨a10, trivial⟩⟩
                      subst hg'
                      exact SA.val (v := pv (some (b38, o39))) rfl (wantN rfl) (fun _ => by kernel_rfl)
                    · clear h
                      intro fr' T' H' hle hs hA
                      have a63 : fr' 63 = pv (some (b38, o39)) := hA 5 (by kernel_rfl)
                      obtain ⟨g', hg'⟩ : ∃ g' : Fr, fr' = g'.upds [(63, pv (some (b38, o39)))] := ⟨_, Fr.upds_self _ _ ⟨a63, trivial⟩⟩
                      subst hg'
                      exact SA.val (v := pv (some (b38, o39))) rfl (wantN rfl) (fun _ => by kernel_rfl)
                    · clear h
                      intro fr' T' H' hle hs hA
                      have a64 : fr' 64 = pv (some (b38, o39)) := hA 6 (by kernel_rfl)
                      obtain ⟨g', hg'⟩ : ∃ g' : Fr, fr' = g'.upds [(64, pv (some (b38, o39)))] := ⟨_, Fr.upds_self _ _ ⟨a64, trivial⟩⟩
                      subst hg'
                      exact SA.val (v := pv (some (b38, (o39 + 1)))) rfl (wantN rfl) (fun _ => by kernel_rfl)
                    · clear h
                      intro fr' T' H' hle hs hA
                      have a65 : fr' 65 = pv (some (b38, (o39 + 1))) := hA 7 (by kernel_rfl)
                      obtain ⟨g', hg'⟩ : ∃ g' : Fr, fr' = g'.upds [(65, pv (some (b38, (o39 + 1))))] := ⟨_, Fr.upds_self _ _ ⟨a65, trivial⟩⟩
                      subst hg'
                      exact SA.rd hle (v := sv l42) rfl (wantN rfl) (fun w hw => ev_load1 rfl (fun _ => by kernel_rfl) (p := (b38, (o39 + 1))) rfl c43 w hw)
                    · clear h
                      intro fr' T' H' hle hs hA
                      have a1 : fr' 1 = (.int .i64 x26 : Value) := hs 1 (by kernel_rfl)
                      obtain ⟨g', hg'⟩ : ∃ g' : Fr, fr' = g'.upds [(1, (.int .i64 x26 : Value))] := ⟨_, Fr.upds_self _ _ ⟨a1, trivial⟩⟩
                      subst hg'
                      exact SA.val (v := .int .i64 x26) rfl (wantN rfl) (fun _ => by kernel_rfl)
                    · clear h
                      intro fr' T' H' hle hs hA
                      have a66 : fr' 66 = sv l42 := hA 8 (by kernel_rfl)
                      have a67 : fr' 67 = (.int .i64 x26 : Value) := hA 9 (by kernel_rfl)
                      obtain ⟨g', hg'⟩ : ∃ g' : Fr, fr' = g'.upds [(66, sv l42), (67, (.int .i64 x26 : Value))] := ⟨_, Fr.upds_self _ _ ⟨a66, a67, trivial⟩⟩
                      subst hg'
                      exact SA.val (v := pv (some (p44.1, (p44.2 + x26.toNat * 1)))) rfl (wantN rfl) (fun w => ev_iaddr rfl Tryd.underlying55 (size := 1) (by kernel_rfl) rfl rfl c45 c46 c47 w)
                    · clear h
                      intro fr' T' H' hle hs hA
                      have a68 : fr' 68 = pv (some (p44.1, (p44.2 + x26.toNat * 1))) := hA 10 (by kernel_rfl)
                      obtain ⟨g', hg'⟩ : ∃ g' : Fr, fr' = g'.upds [(68, pv (some (p44.1, (p44.2 + x26.toNat * 1))))] := ⟨_, Fr.upds_self _ _ ⟨a68, trivial⟩⟩
                      subst hg'
                      exact SA.rd hle (v := .string s48) rfl (wantN rfl) (fun w hw => ev_load1 rfl (fun _ => by kernel_rfl) (p := (p44.1, (p44.2 + x26.toNat * 1))) rfl c49 w hw)
                    · clear h
                      intro fr' T' H' hle hs hA
                      have a2 : fr' 2 = (.int .i64 x27 : Value) := hs 2 (by kernel_rfl)
                      obtain ⟨g', hg'⟩ : ∃ g' : Fr, fr' = g'.upds [(2, (.int .i64 x27 : Value))] := ⟨_, Fr.upds_self _ _ ⟨a2, trivial⟩⟩
                      subst hg'
                      exact SA.val (v := .int .i64 x27) rfl (wantN rfl) (fun _ => by kernel_rfl)
                    · clear h
                      intro fr' T' H' hle hs hA
                      have a3 : fr' 3 = (.int .u8 x28 : Value) := hs 3 (by kernel_rfl)
                      obtain ⟨g', hg'⟩ : ∃ g' : Fr, fr' = g'.upds [(3, (.int .u8 x28 : Value))] := ⟨_, Fr.upds_self _ _ ⟨a3, trivial⟩⟩
                      subst hg'
                      exact SA.val (v := .int .u8 x28) rfl (wantN rfl) (fun _ => by kernel_rfl)
                    · clear h
                      intro fr' T' H' hle hs hA
                      have a69 : fr' 69 = (.string s48 : Value) := hA 11 (by kernel_rfl)
                      have a70 : fr' 70 = (.int .i64 x27 : Value) := hA 12 (by kernel_rfl)
                      have a71 : fr' 71 = (.int .u8 x28 : Value) := hA 13 (by kernel_rfl)
                      obtain ⟨g', hg'⟩ : ∃ g' : Fr, fr' = g'.upds [(69, (.string s48 : Value)), (70, (.int .i64 x27 : Value)), (71, (.int .u8 x28 : Value))] := ⟨_, Fr.upds_self _ _ ⟨a69, a70, a71, trivial⟩⟩
                      subst hg'
                      exact SA.enter (Hc := H) (v := .string s50) hle rfl (wantN rfl) (fun _ => by kernel_rfl) ((disk_turned.sound F s48 x27 x28 H _ c51).mono (by rintro v H' ⟨_, rfl, rfl, h'⟩; exact ⟨rfl, h'⟩))
                    · clear h
                      intro fr' T' H' hle hs hA
                      have a61 : fr' 61 = sv l40 := hA 3 (by kernel_rfl)
                      have a62 : fr' 62 = (.int .i64 x26 : Value) := hA 4 (by kernel_rfl)
                      obtain ⟨g', hg'⟩ : ∃ g' : Fr, fr' = g'.upds [(61, sv l40), (62, (.int .i64 x26 : Value))] := ⟨_, Fr.upds_self _ _ ⟨a61, a62, trivial⟩⟩
                      subst hg'
                      exact SA.val (v := pv (some (p52.1, (p52.2 + x26.toNat * 1)))) rfl (wantN rfl) (fun w => ev_iaddr rfl Tryd.underlying55 (size := 1) (by kernel_rfl) rfl rfl c53 c54 c55 w)
                    · intro fr' T' H' hle hs hA
                      have a0 : fr' 0 = pv (some (b24, o25)) := hs 0 (by kernel_rfl)
                      have a1 : fr' 1 = (.int .i64 x26 : Value) := hs 1 (by kernel_rfl)
                      have a2 : fr' 2 = (.int .i64 x27 : Value) := hs 2 (by kernel_rfl)
                      have a3 : fr' 3 = (.int .u8 x28 : Value) := hs 3 (by kernel_rfl)
                      have a52 : fr' 52 = sv l29 := hs 52 (by kernel_rfl)
                      have a53 : fr' 53 = (.int .i64 2 : Value) := hs 53 (by kernel_rfl)
                      have a54 : fr' 54 = (.int .i64 x30 : Value) := hs 54 (by kernel_rfl)
                      have a72 : fr' 72 = (.string s50 : Value) := hA 14 (Nat.le_of_ble_eq_true rfl)
                      have a73 : fr' 73 = pv (some (p52.1, (p52.2 + x26.toNat * 1))) := hA 15 (Nat.le_of_ble_eq_true rfl)
                      obtain ⟨g', hg'⟩ : ∃ g' : Fr, fr' = g'.upds [(0, pv (some (b24, o25))), (1, (.int .i64 x26 : Value)), (2, (.int .i64 x27 : Value)), (3, (.int .u8 x28 : Value)), (52, sv l29), (53, (.int .i64 2 : Value)), (54, (.int .i64 x30 : Value)), (72, (.string s50 : Value)), (73, pv (some (p52.1, (p52.2 + x26.toNat * 1))))] := ⟨_, Fr.upds_self _ _ ⟨a0, a1, a2, a3, a52, a53, a54, a72, a73, trivial⟩⟩
                      subst hg'
                      refine SOps.forget (H) hle ?_
                      clear hle hs hA
                      obtain ⟨c57, h⟩ := h
                      refine SOps.storeL (p := (p52.1, (p52.2 + x26.toNat * 1))) (v := .string s50) (cs := [.string s50]) rfl rfl (wantN rfl) (size := 1) (by kernel_rfl) rfl rfl rfl rfl (by simp [Value.oneCell', errV_one, pv, sv]) c57 ?_
                      refine SOps.nil ?_
                      refine SW.region ?_
                      refine SOps.val (v := .int .i64 (w64 (x30 + 1))) rfl (wantN rfl) (fun _ => by kernel_rfl) ?_
                      refine SOps.val (v := .int .i64 (w64 (x30 + 1))) rfl (wantN rfl) (fun _ => by kernel_rfl) ?_
                      refine SOps.nil ?_
                      exact ⟨k1, Nat.lt_succ_self k1, _, b24, o25, x26, x27, x28, l29, w64 (x30 + 1), (Fr.upds_self _ _ ⟨rfl, rfl, rfl, rfl, rfl, rfl, rfl, trivial⟩), h⟩
                · replace h := h.2 c31
                  have dc31 : (decide (x30 < 2)) = false := (decide_eq_false c31)
                  refine SW.cond_f (t := decide (x30 < 2)) rfl dc31 ?_
                  refine SW.exit ?_
                  refine SW.seq ?_
                  refine SW.seq ?_
                  refine SW.region ?_
                  refine SOps.val (v := pv (some (b24, o25))) rfl (wantN rfl) (fun _ => by kernel_rfl) ?_
                  refine SOps.val (v := pv (some (b24, o25))) rfl (wantN rfl) (fun _ => by kernel_rfl) ?_
                  refine SOps.val (v := pv (some (b24, (o25 + 6)))) rfl (wantN rfl) (fun _ => by kernel_rfl) ?_
                  obtain ⟨l58, c59, h⟩ := h
                  refine SOps.rd (v := sv l58) rfl (wantN rfl) (fun w hw => ev_load1 rfl (fun _ => by kernel_rfl) (p := (b24, (o25 + 6))) rfl c59 w hw) ?_
                  refine SOps.val (v := .int .i64 (l58.len : Int)) rfl (wantN rfl) (fun _ => by kernel_rfl) ?_
                  refine SOps.val (v := .int .i64 (w64 ((l58.len : Int) - 1))) rfl (wantN rfl) (fun _ => by kernel_rfl) ?_
                  refine SOps.val (v := .int .i64 (w64 ((l58.len : Int) - 1))) rfl (wantN rfl) (fun _ => by kernel_rfl) ?_
                  refine SOps.nil ?_
                  refine SW.blockJ (fun fr H => ∃ (g : Fr), fr = g.upds [] ∧ disk_Disk_Rot.j1 F K H) ?_ ?_
                  · clear h
                    rintro fr H ⟨g, rfl, h⟩
                    unfold disk_Disk_Rot.j1 at h
                    refine SW.seq ?_
                    refine SW.region ?_
                    refine SOps.val (v := .bool true) rfl (wantN rfl) (fun _ => by kernel_rfl) ?_
                    refine SOps.nil ?_
                    obtain ⟨Hr, hr, h⟩ := h
                    exact SW.ret (retQ.mk (.bool true) (res1 rfl rfl) hr ⟨true, rfl, h⟩)
                  · skip
                    refine SW.loop (fun k2 fr H => ∃ (g : Fr) (b60 : Nat) (o61 : Nat) (x62 : Int) (x63 : Int) (x64 : Int) (x65 : Int), fr = g.upds [(0, pv (some (b60, o61))), (1, (.int .i64 x62 : Value)), (2, (.int .i64 x63 : Value)), (3, (.int .u8 x64 : Value)), (11, (.int .i64 x65 : Value))] ∧ disk_Disk_Rot.l2 F K k2 b60 o61 x62 x63 x64 x65 H) F ⟨_, b24, o25, x26, x27, x28, w64 ((l58.len : Int) - 1), (Fr.upds_self _ _ ⟨rfl, rfl, rfl, rfl, rfl, trivial⟩), h⟩ ?_
                    clear h
                    rintro k2 fr H ⟨g, b60, o61, x62, x63, x64, x65, rfl, h⟩
                    cases k2 with
                    | zero => exact h.elim
                    | succ k2 =>
                      replace h : disk_Disk_Rot.r2 F K (disk_Disk_Rot.l2 F K k2) b60 o61 x62 x63 x64 x65 H := h
                      unfold disk_Disk_Rot.r2 at h
                      refine SW.seq ?_
                      refine SW.seq ?_
                      refine SW.region ?_
                      refine SOps.val (v := .int .i64 x65) rfl (wantN rfl) (fun _ => by kernel_rfl) ?_
                      refine SOps.val (v := .bool (decide (x65 ≥ 0))) rfl (wantN rfl) (fun _ => by kernel_rfl) ?_
                      refine SOps.nil ?_
                      by_cases c66 : x65 ≥ 0
                      · replace h := h.1 c66
                        have dc66 : (decide (x65 ≥ 0)) = true := (decide_eq_true c66)
                        refine SW.cond_t (t := decide (x65 ≥ 0)) rfl dc66 ?_
                        refine SW.skip ?_
                        refine SW.seq ?_
                        refine SW.block ?_
                        refine SW.seq ?_
                        refine SW.region ?_
                        refine SOps.val (v := pv (some (b60, o61))) rfl (wantN rfl) (fun _ => by kernel_rfl) ?_
                        refine SOps.val (v := pv (some (b60, o61))) rfl (wantN rfl) (fun _ => by kernel_rfl) ?_
                        refine SOps.val (v := pv (some (b60, (o61 + 6)))) rfl (wantN rfl) (fun _ => by kernel_rfl) ?_
                        obtain ⟨l67, c68, h⟩ := h
                        refine SOps.rd (v := sv l67) rfl (wantN rfl) (fun w hw => ev_load1 rfl (fun _ => by kernel_rfl) (p := (b60, (o61 + 6))) rfl c68 w hw) ?_
                        refine SOps.val (v := .int .i64 x65) rfl (wantN rfl) (fun _ => by kernel_rfl) ?_
                        obtain ⟨p69, c70, c71, c72, h⟩ := h
                        refine SOps.val (v := pv (some (p69.1, (p69.2 + x65.toNat * 2)))) rfl (wantN rfl) (fun w => ev_iaddr rfl Tryd.underlying73 (size := 2) (by kernel_rfl) rfl rfl c70 c71 c72 w) ?_
                        refine SOps.val (v := pv (some (p69.1, (p69.2 + x65.toNat * 2)))) rfl (wantN rfl) (fun _ => by kernel_rfl) ?_
                        refine SOps.nil ?_
                        refine SW.seq ?_
                        refine SW.region ?_
                        refine SOps.val (v := pv (some (p69.1, (p69.2 + x65.toNat * 2)))) rfl (wantN rfl) (fun _ => by kernel_rfl) ?_
                        refine SOps.val (v := pv (some (p69.1, (p69.2 + x65.toNat * 2)))) rfl (wantN rfl) (fun _ => by kernel_rfl) ?_
                        refine SOps.val (v := pv (some (p69.1, (p69.2 + x65.toNat * 2)))) rfl (wantN rfl) (fun _ => by kernel_rfl) ?_
                        obtain ⟨x73, c74, h⟩ := h
                        refine SOps.rd (v := .int .i64 x73) rfl (wantN rfl) (fun w hw => ev_load1 rfl (fun _ => by kernel_rfl) (p := (p69.1, (p69.2 + x65.toNat * 2))) rfl c74 w hw) ?_
                        refine SOps.val (v := .int .i64 x62) rfl (wantN rfl) (fun _ => by kernel_rfl) ?_
                        refine SOps.val (v := .bool (x73 == x62)) rfl (wantN rfl) (fun _ => by kernel_rfl) ?_
                        refine SOps.nil ?_
                        by_cases c75 : x73 = x62
                        · replace h := h.1 c75
                          have dc75 : (x73 == x62) = true := (beq_iff_eq.mpr c75)
                          refine SW.cond_t (t := (x73 == x62)) rfl dc75 ?_
                          refine SW.seq ?_
                          refine SW.region ?_
                          refine SOps.val (v := pv (some (p69.1, (p69.2 + x65.toNat * 2)))) rfl (wantN rfl) (fun _ => by kernel_rfl) ?_
                          refine SOps.val (v := pv (some (p69.1, (p69.2 + x65.toNat * 2)))) rfl (wantN rfl) (fun _ => by kernel_rfl) ?_
                          refine SOps.val (v := pv (some (p69.1, (p69.2 + x65.toNat * 2)))) rfl (wantN rfl) (fun _ => by kernel_rfl) ?_
                          refine SOps.val (v := pv (some (p69.1, ((p69.2 + x65.toNat * 2) + 1)))) rfl (wantN rfl) (fun _ => by kernel_rfl) ?_
                          obtain ⟨s76, c77, h⟩ := h
                          refine SOps.rd (v := .string s76) rfl (wantN rfl) (fun w hw => ev_load1 rfl (fun _ => by kernel_rfl) (p := (p69.1, ((p69.2 + x65.toNat * 2) + 1))) rfl c77 w hw) ?_
                          refine SOps.val (v := .int .i64 x63) rfl (wantN rfl) (fun _ => by kernel_rfl) ?_
                          refine SOps.val (v := .int .u8 x64) rfl (wantN rfl) (fun _ => by kernel_rfl) ?_
                          refine SOps.enter rfl (wantN rfl) (fun _ => by kernel_rfl) (disk_turned.sound F s76 x63 x64 H _ h) ?_
                          clear h
                          rintro v H79 ⟨s78, rfl, h⟩
                          refine SOps.val (v := pv (some (p69.1, (p69.2 + x65.toNat * 2)))) rfl (wantN rfl) (fun _ => by kernel_rfl) ?_
                          refine SOps.val (v := pv (some (p69.1, ((p69.2 + x65.toNat * 2) + 1)))) rfl (wantN rfl) (fun _ => by kernel_rfl) ?_
                          obtain ⟨c80, h⟩ := h
                          refine SOps.storeL (p := (p69.1, ((p69.2 + x65.toNat * 2) + 1))) (v := .string s78) (cs := [.string s78]) rfl rfl (wantN rfl) (size := 1) (by kernel_rfl) rfl rfl rfl rfl (by simp [Value.oneCell', errV_one, pv, sv]) c80 ?_
                          refine SOps.nil ?_
                          refine SW.exit ?_
                          exact ⟨_, (Fr.upds_self _ [] trivial), h⟩
                        · replace h := h.2 c75
                          have dc75 : (x73 == x62) = false := (beq_eq_false_iff_ne.mpr c75)
                          refine SW.cond_f (t := (x73 == x62)) rfl dc75 ?_
                          refine SW.skip ?_
                          refine SW.region ?_
                          refine SOps.val (v := .int .i64 x65) rfl (wantN rfl) (fun _ => by kernel_rfl) ?_
                          refine SOps.val (v := .int .i64 (w64 (x65 - 1))) rfl (wantN rfl) (fun _ => by kernel_rfl) ?_
                          refine SOps.val (v := .int .i64 (w64 (x65 - 1))) rfl (wantN rfl) (fun _ => by kernel_rfl) ?_
                          refine SOps.nil ?_
                          exact ⟨k2, Nat.lt_succ_self k2, _, b60, o61, x62, x63, x64, w64 (x65 - 1), (Fr.upds_self _ _ ⟨rfl, rfl, rfl, rfl, rfl, trivial⟩), h⟩
                      · replace h := h.2 c66
                        have dc66 : (decide (x65 ≥ 0)) = false := (decide_eq_false c66)
                        refine SW.cond_f (t := decide (x65 ≥ 0)) rfl dc66 ?_
                        refine SW.exit ?_
                        exact ⟨_, (Fr.upds_self _ [] trivial), h⟩

/-! ### (*lading/disk.Disk).Same: function 20 -/
def disk_Disk_Same.wp (F : Nat) (p1 : Option (Nat × Nat)) (p2 : Option (Nat × Nat)) (H : SH) (K : Bool → SH → Prop) : Prop :=
  (p1 = none →
    (p2 = none →
      ∃ Hr, SH.le Hr H ∧ K true Hr
    ) ∧ (∀ b5 o6, p2 = some (b5, o6) →
      ∃ Hr, SH.le Hr H ∧ K false Hr
    )
  ) ∧ (∀ b3 o4, p1 = some (b3, o4) →
    (p2 = none →
      ∃ Hr, SH.le Hr H ∧ K false Hr
    ) ∧ (∀ b7 o8, p2 = some (b7, o8) →
      ∃ (s9 : ByteArray),
      SH.has H (b3, (o4 + 2)) (.string s9) ∧
      ∃ (s11 : ByteArray),
      SH.has H (b7, (o8 + 2)) (.string s11) ∧
      (s9 = s11 →
        ∃ (l14 : Sl),
        SH.has H (b3, ((o4 + 2) + 1)) (sv l14) ∧
        ∃ (l16 : Sl),
        SH.has H (b7, ((o8 + 2) + 1)) (sv l16) ∧
        ∃ (q18 : Bool),
        slices_Equal_string_string.wp F l14 l16 H (fun q18' H' => q18' = q18 ∧ H' = H) ∧
        ∃ Hr, SH.le Hr H ∧ K q18 Hr
      ) ∧ (¬ (s9 = s11) →
        ∃ Hr, SH.le Hr H ∧ K false Hr
      )
    )
  )
set_option maxHeartbeats 8000000 in
theorem disk_Disk_Same.sound (F : Nat) (p1 : Option (Nat × Nat)) (p2 : Option (Nat × Nat)) (H : SH) (K : Bool → SH → Prop) (h : disk_Disk_Same.wp F p1 p2 H K) : SCalls Tryd.prog 20 #[pv p1, pv p2] H (fun v H' => ∃ (q21 : Bool), v = .bool q21 ∧ K q21 H') := by
  unfold disk_Disk_Same.wp at h
  refine SCalls.body Tryd.func20 rfl (Nat.le_of_ble_eq_true rfl) ?_
  refine SW.seq ?_
  refine SW.region ?_
  refine SOps.val (v := .bool false) rfl (wantN rfl) (fun _ => by kernel_rfl) ?_
  refine SOps.nil ?_
  refine SW.seq ?_
  refine SW.seq ?_
  refine SW.region ?_
  refine SOps.val (v := pv p1) rfl (wantN rfl) (fun _ => by kernel_rfl) ?_
  rcases p1 with _ | ⟨b3, o4⟩
  · replace h := h.1 rfl
    refine SOps.val (v := .bool true) rfl (wantN rfl) (fun _ => by kernel_rfl) ?_
    refine SOps.val (v := .bool true) rfl (wantN rfl) (fun _ => by kernel_rfl) ?_
    refine SOps.off rfl (wantX (c := true) rfl rfl rfl rfl) ?_
    refine SOps.off rfl (wantX (c := true) rfl rfl rfl rfl) ?_
    refine SOps.val (v := .bool true) rfl (wantN rfl) (fun w => ev_pickT (v := .bool true) rfl (t := true) rfl rfl rfl w) ?_
    refine SOps.nil ?_
    refine SW.cond_t (t := true) rfl rfl ?_
    refine SW.seq ?_
    refine SW.region ?_
    refine SOps.val (v := pv none) rfl (wantN rfl) (fun _ => by kernel_rfl) ?_
    refine SOps.val (v := pv p2) rfl (wantN rfl) (fun _ => by kernel_rfl) ?_
    rcases p2 with _ | ⟨b5, o6⟩
    · replace h := h.1 rfl
      refine SOps.val (v := .bool true) rfl (wantN rfl) (fun _ => by kernel_rfl) ?_
      refine SOps.val (v := .bool true) rfl (wantN rfl) (fun _ => by kernel_rfl) ?_
      refine SOps.nil ?_
      obtain ⟨Hr, hr, h⟩ := h
      exact SW.ret (retQ.mk (.bool true) (res1 rfl rfl) hr ⟨true, rfl, h⟩)
    · replace h := h.2 b5 o6 rfl
      refine SOps.val (v := .bool false) rfl (wantN rfl) (fun _ => by kernel_rfl) ?_
      refine SOps.val (v := .bool false) rfl (wantN rfl) (fun _ => by kernel_rfl) ?_
      refine SOps.nil ?_
      obtain ⟨Hr, hr, h⟩ := h
      exact SW.ret (retQ.mk (.bool false) (res1 rfl rfl) hr ⟨false, rfl, h⟩)
  · replace h := h.2 b3 o4 rfl
    refine SOps.val (v := .bool false) rfl (wantN rfl) (fun _ => by kernel_rfl) ?_
    refine SOps.val (v := .bool false) rfl (wantN rfl) (fun _ => by kernel_rfl) ?_
    refine SOps.val (v := pv p2) rfl (wantY (c := false) rfl rfl rfl rfl) (fun _ => by kernel_rfl) ?_
    rcases p2 with _ | ⟨b7, o8⟩
    · replace h := h.1 rfl
      refine SOps.val (v := .bool true) rfl (wantY (c := false) rfl rfl rfl rfl) (fun _ => by kernel_rfl) ?_
      refine SOps.val (v := .bool true) rfl (wantN rfl) (fun w => ev_pickF (v := .bool true) rfl (t := false) rfl rfl rfl w) ?_
      refine SOps.nil ?_
      refine SW.cond_t (t := true) rfl rfl ?_
      refine SW.seq ?_
      refine SW.region ?_
      refine SOps.val (v := pv (some (b3, o4))) rfl (wantN rfl) (fun _ => by kernel_rfl) ?_
      refine SOps.val (v := pv none) rfl (wantN rfl) (fun _ => by kernel_rfl) ?_
      refine SOps.val (v := .bool false) rfl (wantN rfl) (fun _ => by kernel_rfl) ?_
      refine SOps.val (v := .bool false) rfl (wantN rfl) (fun _ => by kernel_rfl) ?_
      refine SOps.nil ?_
      obtain ⟨Hr, hr, h⟩ := h
      exact SW.ret (retQ.mk (.bool false) (res1 rfl rfl) hr ⟨false, rfl, h⟩)
    · replace h := h.2 b7 o8 rfl
      refine SOps.val (v := .bool false) rfl (wantY (c := false) rfl rfl rfl rfl) (fun _ => by kernel_rfl) ?_
      refine SOps.val (v := .bool false) rfl (wantN rfl) (fun w => ev_pickF (v := .bool false) rfl (t := false) rfl rfl rfl w) ?_
      refine SOps.nil ?_
      refine SW.cond_f (t := false) rfl rfl ?_
      refine SW.skip ?_
      refine SW.seq ?_
      refine SW.draw (by kernel_rfl) (by kernel_rfl) ?_
      refine SQ.val (v := pv (some (b3, o4))) rfl (wantN rfl) (fun _ => by kernel_rfl) ?_
      refine SQ.val (v := pv (some (b3, o4))) rfl (wantN rfl) (fun _ => by kernel_rfl) ?_
      refine SQ.val (v := pv (some (b3, (o4 + 2)))) rfl (wantN rfl) (fun _ => by kernel_rfl) ?_
      refine SQ.val (v := pv (some (b3, (o4 + 2)))) rfl (wantN rfl) (fun _ => by kernel_rfl) ?_
      obtain ⟨s9, c10, h⟩ := h
      refine SQ.rd (v := .string s9) rfl (wantN rfl) (fun w hw => ev_load1 rfl (fun _ => by kernel_rfl) (p := (b3, (o4 + 2))) rfl c10 w hw) ?_
      refine SQ.val (v := pv (some (b7, o8))) rfl (wantN rfl) (fun _ => by kernel_rfl) ?_
      refine SQ.val (v := pv (some (b7, o8))) rfl (wantN rfl) (fun _ => by kernel_rfl) ?_
      refine SQ.val (v := pv (some (b7, (o8 + 2)))) rfl (wantN rfl) (fun _ => by kernel_rfl) ?_
      refine SQ.val (v := pv (some (b7, (o8 + 2)))) rfl (wantN rfl) (fun _ => by kernel_rfl) ?_
      obtain ⟨s11, c12, h⟩ := h
      refine SQ.rd (v := .string s11) rfl (wantN rfl) (fun w hw => ev_load1 rfl (fun _ => by kernel_rfl) (p := (b7, (o8 + 2))) rfl c12 w hw) ?_
      refine SQ.val (v := .bool (decide (s9 = s11))) rfl (wantN rfl) (fun w => ev_eqS rfl rfl rfl w) ?_
      refine SQ.val (v := .bool (decide (s9 = s11))) rfl (wantN rfl) (fun _ => by kernel_rfl) ?_
      by_cases c13 : s9 = s11
      · replace h := h.1 c13
        have dc13 : (decide (s9 = s11)) = true := (decide_eq_true c13)
        refine SQ.val (v := pv (some (b3, o4))) rfl (wantY (c := decide (s9 = s11)) rfl rfl rfl dc13) (fun _ => by kernel_rfl) ?_
        refine SQ.val (v := pv (some (b3, o4))) rfl (wantY (c := decide (s9 = s11)) rfl rfl rfl dc13) (fun _ => by kernel_rfl) ?_
        refine SQ.val (v := pv (some (b3, (o4 + 2)))) rfl (wantY (c := decide (s9 = s11)) rfl rfl rfl dc13) (fun _ => by kernel_rfl) ?_
        refine SQ.val (v := pv (some (b3, ((o4 + 2) + 1)))) rfl (wantY (c := decide (s9 = s11)) rfl rfl rfl dc13) (fun _ => by kernel_rfl) ?_
        obtain ⟨l14, c15, h⟩ := h
        refine SQ.rd (v := sv l14) rfl (wantY (c := decide (s9 = s11)) rfl rfl rfl dc13) (fun w hw => ev_load1 rfl (fun _ => by kernel_rfl) (p := (b3, ((o4 + 2) + 1))) rfl c15 w hw) ?_
        refine SQ.val (v := pv (some (b7, o8))) rfl (wantY (c := decide (s9 = s11)) rfl rfl rfl dc13) (fun _ => by kernel_rfl) ?_
        refine SQ.val (v := pv (some (b7, o8))) rfl (wantY (c := decide (s9 = s11)) rfl rfl rfl dc13) (fun _ => by kernel_rfl) ?_
        refine SQ.val (v := pv (some (b7, (o8 + 2)))) rfl (wantY (c := decide (s9 = s11)) rfl rfl rfl dc13) (fun _ => by kernel_rfl) ?_
        refine SQ.val (v := pv (some (b7, ((o8 + 2) + 1)))) rfl (wantY (c := decide (s9 = s11)) rfl rfl rfl dc13) (fun _ => by kernel_rfl) ?_
        obtain ⟨l16, c17, h⟩ := h
        refine SQ.rd (v := sv l16) rfl (wantY (c := decide (s9 = s11)) rfl rfl rfl dc13) (fun w hw => ev_load1 rfl (fun _ => by kernel_rfl) (p := (b7, ((o8 + 2) + 1))) rfl c17 w hw) ?_
        obtain ⟨q18, c19, h⟩ := h
        refine SQ.enter (v := .bool q18) rfl (wantY (c := decide (s9 = s11)) rfl rfl rfl dc13) (fun _ => by kernel_rfl) ((slices_Equal_string_string.sound F l14 l16 H _ c19).mono (by rintro v H' ⟨_, rfl, rfl, rfl⟩; exact ⟨rfl, rfl⟩)) ?_
        refine SQ.val (v := .bool q18) rfl (wantN rfl) (fun w => ev_pickT (v := .bool q18) rfl (t := decide (s9 = s11)) rfl dc13 rfl w) ?_
        refine SQ.val (v := .bool q18) rfl (wantN rfl) (fun _ => by kernel_rfl) ?_
        refine SQ.nil ?_
        obtain ⟨Hr, hr, h⟩ := h
        exact SW.ret (retQ.mk (.bool q18) (res1 rfl rfl) hr ⟨q18, rfl, h⟩)
      · replace h := h.2 c13
        have dc13 : (decide (s9 = s11)) = false := (decide_eq_false c13)
        refine SQ.off rfl (wantX (c := decide (s9 = s11)) rfl rfl rfl dc13) ?_
        refine SQ.off rfl (wantX (c := decide (s9 = s11)) rfl rfl rfl dc13) ?_
        refine SQ.off rfl (wantX (c := decide (s9 = s11)) rfl rfl rfl dc13) ?_
        refine SQ.off rfl (wantX (c := decide (s9 = s11)) rfl rfl rfl dc13) ?_
        refine SQ.off rfl (wantX (c := decide (s9 = s11)) rfl rfl rfl dc13) ?_
        refine SQ.off rfl (wantX (c := decide (s9 = s11)) rfl rfl rfl dc13) ?_
        refine SQ.off rfl (wantX (c := decide (s9 = s11)) rfl rfl rfl dc13) ?_
        refine SQ.off rfl (wantX (c := decide (s9 = s11)) rfl rfl rfl dc13) ?_
        refine SQ.off rfl (wantX (c := decide (s9 = s11)) rfl rfl rfl dc13) ?_
        refine SQ.off rfl (wantX (c := decide (s9 = s11)) rfl rfl rfl dc13) ?_
        refine SQ.off rfl (wantX (c := decide (s9 = s11)) rfl rfl rfl dc13) ?_
        refine SQ.val (v := .bool false) rfl (wantN rfl) (fun w => ev_pickF (v := .bool false) rfl (t := decide (s9 = s11)) rfl dc13 rfl w) ?_
        refine SQ.val (v := .bool false) rfl (wantN rfl) (fun _ => by kernel_rfl) ?_
        refine SQ.nil ?_
        obtain ⟨Hr, hr, h⟩ := h
        exact SW.ret (retQ.mk (.bool false) (res1 rfl rfl) hr ⟨false, rfl, h⟩)

/-! ### (*lading/disk.Disk).Waits: function 21 -/
def disk_Disk_Waits.wp (F : Nat) (p1 : Option (Nat × Nat)) (H : SH) (K : Int → SH → Prop) : Prop :=
  (p1 = none →
    ∃ Hr, SH.le Hr H ∧ K 0 Hr
  ) ∧ (∀ b2 o3, p1 = some (b2, o3) →
    ∃ (l4 : Sl),
    SH.has H (b2, (o3 + 6)) (sv l4) ∧
    ∃ Hr, SH.le Hr H ∧ K (l4.len : Int) Hr
  )
set_option maxHeartbeats 8000000 in
theorem disk_Disk_Waits.sound (F : Nat) (p1 : Option (Nat × Nat)) (H : SH) (K : Int → SH → Prop) (h : disk_Disk_Waits.wp F p1 H K) : SCalls Tryd.prog 21 #[pv p1] H (fun v H' => ∃ (x7 : Int), v = .int .i64 x7 ∧ K x7 H') := by
  unfold disk_Disk_Waits.wp at h
  refine SCalls.body Tryd.func21 rfl (Nat.le_of_ble_eq_true rfl) ?_
  refine SW.seq ?_
  refine SW.region ?_
  refine SOps.val (v := .int .i64 0) rfl (wantN rfl) (fun _ => by kernel_rfl) ?_
  refine SOps.nil ?_
  refine SW.seq ?_
  refine SW.seq ?_
  refine SW.region ?_
  refine SOps.val (v := pv p1) rfl (wantN rfl) (fun _ => by kernel_rfl) ?_
  rcases p1 with _ | ⟨b2, o3⟩
  · replace h := h.1 rfl
    refine SOps.val (v := .bool true) rfl (wantN rfl) (fun _ => by kernel_rfl) ?_
    refine SOps.nil ?_
    refine SW.cond_t (t := true) rfl rfl ?_
    refine SW.seq ?_
    refine SW.region ?_
    refine SOps.val (v := .int .i64 0) rfl (wantN rfl) (fun _ => by kernel_rfl) ?_
    refine SOps.nil ?_
    obtain ⟨Hr, hr, h⟩ := h
    exact SW.ret (retQ.mk (.int .i64 0) (res1 rfl rfl) hr ⟨0, rfl, h⟩)
  · replace h := h.2 b2 o3 rfl
    refine SOps.val (v := .bool false) rfl (wantN rfl) (fun _ => by kernel_rfl) ?_
    refine SOps.nil ?_
    refine SW.cond_f (t := false) rfl rfl ?_
    refine SW.skip ?_
    refine SW.seq ?_
    refine SW.region ?_
    refine SOps.val (v := pv (some (b2, o3))) rfl (wantN rfl) (fun _ => by kernel_rfl) ?_
    refine SOps.val (v := pv (some (b2, o3))) rfl (wantN rfl) (fun _ => by kernel_rfl) ?_
    refine SOps.val (v := pv (some (b2, (o3 + 6)))) rfl (wantN rfl) (fun _ => by kernel_rfl) ?_
    obtain ⟨l4, c5, h⟩ := h
    refine SOps.rd (v := sv l4) rfl (wantN rfl) (fun w hw => ev_load1 rfl (fun _ => by kernel_rfl) (p := (b2, (o3 + 6))) rfl c5 w hw) ?_
    refine SOps.val (v := .int .i64 (l4.len : Int)) rfl (wantN rfl) (fun _ => by kernel_rfl) ?_
    refine SOps.val (v := .int .i64 (l4.len : Int)) rfl (wantN rfl) (fun _ => by kernel_rfl) ?_
    refine SOps.nil ?_
    obtain ⟨Hr, hr, h⟩ := h
    exact SW.ret (retQ.mk (.int .i64 (l4.len : Int)) (res1 rfl rfl) hr ⟨(l4.len : Int), rfl, h⟩)

/-! ### (*lading/disk.Disk).Get: function 24 -/
def disk_Disk_Get.wp (F : Nat) (p1 : Option (Nat × Nat)) (x2 : Int) (H : SH) (K : ByteArray → Option EV → SH → Prop) : Prop :=
  disk_Disk_slot.wp F p1 x2 H (fun e3 H4 =>
    (e3 = none →
      (p1 = none →
        False
      ) ∧ (∀ b6 o7, p1 = some (b6, o7) →
        ∃ (l8 : Sl),
        SH.has H4 (b6, ((o7 + 2) + 1)) (sv l8) ∧
        ∃ p10, l8.a = some p10 ∧ 0 ≤ x2 ∧ x2 < (l8.len : Int) ∧
        ∃ (s14 : ByteArray),
        SH.has H4 (p10.1, (p10.2 + x2.toNat * 1)) (.string s14) ∧
        ∃ Hr, SH.le Hr H4 ∧ K s14 none Hr
      )
    ) ∧ (∀ v5, e3 = some v5 →
      ∃ Hr, SH.le Hr H4 ∧ K ByteArray.empty (some v5) Hr
    )
  )
set_option maxHeartbeats 8000000 in
theorem disk_Disk_Get.sound (F : Nat) (p1 : Option (Nat × Nat)) (x2 : Int) (H : SH) (K : ByteArray → Option EV → SH → Prop) (h : disk_Disk_Get.wp F p1 x2 H K) : SCalls Tryd.prog 24 #[pv p1, .int .i64 x2] H (fun v H' => ∃ (s18 : ByteArray) (e19 : Option EV), v = .tuple #[.string s18, errV e19] ∧ K s18 e19 H') := by
  unfold disk_Disk_Get.wp at h
  refine SCalls.body Tryd.func24 rfl (Nat.le_of_ble_eq_true rfl) ?_
  refine SW.seq ?_
  refine SW.region ?_
  refine SOps.val (v := .string ByteArray.empty) rfl (wantN rfl) (fun _ => by kernel_rfl) ?_
  refine SOps.val (v := errV none) rfl (wantN rfl) (fun _ => by kernel_rfl) ?_
  refine SOps.nil ?_
  refine SW.seq ?_
  refine SW.seq ?_
  refine SW.region ?_
  refine SOps.val (v := pv p1) rfl (wantN rfl) (fun _ => by kernel_rfl) ?_
  refine SOps.val (v := .int .i64 x2) rfl (wantN rfl) (fun _ => by kernel_rfl) ?_
  refine SOps.enter rfl (wantN rfl) (fun _ => by kernel_rfl) (disk_Disk_slot.sound F p1 x2 H _ h) ?_
  clear h
  rintro v H4 ⟨e3, rfl, h⟩
  refine SOps.val (v := errV e3) rfl (wantN rfl) (fun _ => by kernel_rfl) ?_
  refine SOps.nil ?_
  refine SW.seq ?_
  refine SW.region ?_
  refine SOps.val (v := errV e3) rfl (wantN rfl) (fun _ => by kernel_rfl) ?_
  rcases e3 with _ | v5
  · replace h := h.1 rfl
    refine SOps.val (v := .bool false) rfl (wantN rfl) (fun w => ev_errNe (e := none) rfl Tryd.underlying28 rfl rfl w) ?_
    refine SOps.nil ?_
    refine SW.cond_f (t := false) rfl rfl ?_
    refine SW.skip ?_
    refine SW.seq ?_
    refine SW.region ?_
    refine SOps.val (v := pv p1) rfl (wantN rfl) (fun _ => by kernel_rfl) ?_
    rcases p1 with _ | ⟨b6, o7⟩
    · replace h := h.1 rfl
      exact h.elim
    · replace h := h.2 b6 o7 rfl
      refine SOps.val (v := pv (some (b6, o7))) rfl (wantN rfl) (fun _ => by kernel_rfl) ?_
      refine SOps.val (v := pv (some (b6, (o7 + 2)))) rfl (wantN rfl) (fun _ => by kernel_rfl) ?_
      refine SOps.val (v := pv (some (b6, ((o7 + 2) + 1)))) rfl (wantN rfl) (fun _ => by kernel_rfl) ?_
      obtain ⟨l8, c9, h⟩ := h
      refine SOps.rd (v := sv l8) rfl (wantN rfl) (fun w hw => ev_load1 rfl (fun _ => by kernel_rfl) (p := (b6, ((o7 + 2) + 1))) rfl c9 w hw) ?_
      refine SOps.val (v := .int .i64 x2) rfl (wantN rfl) (fun _ => by kernel_rfl) ?_
      obtain ⟨p10, c11, c12, c13, h⟩ := h
      refine SOps.val (v := pv (some (p10.1, (p10.2 + x2.toNat * 1)))) rfl (wantN rfl) (fun w => ev_iaddr rfl Tryd.underlying55 (size := 1) (by kernel_rfl) rfl rfl c11 c12 c13 w) ?_
      obtain ⟨s14, c15, h⟩ := h
      refine SOps.rd (v := .string s14) rfl (wantN rfl) (fun w hw => ev_load1 rfl (fun _ => by kernel_rfl) (p := (p10.1, (p10.2 + x2.toNat * 1))) rfl c15 w hw) ?_
      refine SOps.val (v := .string s14) rfl (wantN rfl) (fun _ => by kernel_rfl) ?_
      refine SOps.val (v := errV none) rfl (wantN rfl) (fun _ => by kernel_rfl) ?_
      refine SOps.nil ?_
      obtain ⟨Hr, hr, h⟩ := h
      exact SW.ret (retQ.mk (.tuple #[.string s14, errV none]) (res2 rfl rfl rfl) hr ⟨s14, none, rfl, h⟩)
  · replace h := h.2 v5 rfl
    refine SOps.val (v := .bool true) rfl (wantN rfl) (fun w => ev_errNe (e := some v5) rfl Tryd.underlying28 rfl rfl w) ?_
    refine SOps.nil ?_
    refine SW.cond_t (t := true) rfl rfl ?_
    refine SW.seq ?_
    refine SW.region ?_
    refine SOps.val (v := errV (some v5)) rfl (wantN rfl) (fun _ => by kernel_rfl) ?_
    refine SOps.val (v := .string ByteArray.empty) rfl (wantN rfl) (fun _ => by kernel_rfl) ?_
    refine SOps.val (v := errV (some v5)) rfl (wantN rfl) (fun _ => by kernel_rfl) ?_
    refine SOps.nil ?_
    obtain ⟨Hr, hr, h⟩ := h
    exact SW.ret (retQ.mk (.tuple #[.string ByteArray.empty, errV (some v5)]) (res2 rfl rfl rfl) hr ⟨ByteArray.empty, some v5, rfl, h⟩)

end Go.Proofs.YtknhlipealekoaaDoor.K
