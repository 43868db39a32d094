/- The law JournalPlays: what it comes to. -/
import Derived.Test.YtknhlipealekoaaDoorLawPlays
import Derived.Test.YtknhlipealekoaaDoorSpecWide
import Derived.Test.YtknhlipealekoaaDoorGladinglaw15JournalPlays
import Derived.Deep.Grids
set_option linter.unusedVariables false
set_option linter.unusedSimpArgs false
namespace Go.Proofs.YtknhlipealekoaaDoor.K
open Go
theorem Chain.keep : ∀ (A : List LP) {B : List LP} {H0 H : SH}, Chain (A ++ B) H0 H → Chain A H0 H
  | [], _, _, _, h => Chain.le h
  | _ :: A, _, _, _, ⟨H1, h1, h2⟩ => ⟨H1, h1, Chain.keep A h2⟩
theorem Chain.pull1 {x : LP} (A : List LP) {I : LP} {B : List LP} {H0 H : SH} (h : Chain (x :: (A ++ I :: B)) H0 H) : Chain (x :: I :: (A ++ B)) H0 H := by
  obtain ⟨H1, h1, h2⟩ := h
  exact ⟨H1, h1, Chain.pull A h2⟩
theorem Chain.pull2 {x y : LP} (A : List LP) {I : LP} {B : List LP} {H0 H : SH} (h : Chain (x :: y :: (A ++ I :: B)) H0 H) : Chain (x :: y :: I :: (A ++ B)) H0 H := by
  obtain ⟨H1, h1, h2⟩ := h
  exact ⟨H1, h1, Chain.pull1 A h2⟩
def slq (l : Sl) (cs : List ByteArray) : LP := ⟨SlI STR 1 l (strc cs), .sl⟩
theorem On.cap {E : TypeId} {size : Nat} {l : Sl} {cs : List Value} {H0 H : SH} (h : On (SlI E size l cs) H0 H) : l.len ≤ l.cap := by
  rcases h.own.at_ with ⟨_, h1, h2⟩ | ⟨b, pre, _, _, h1, _⟩
  · omega
  · exact h1
theorem row_sub0 {H : SH} {l : Sl} {cs : List Value} {n : Nat} (h : H.row l.a cs) : H.row (Sl.sub 1 l 0 n l.cap).a (cs.take n) := by
  rcases h with h0 | ⟨p, o, ha, hb, hh⟩
  · left; rw [h0]; simp
  · refine .inr ⟨p, o, ?_, hb, fun j u hu => hh j u ?_⟩
    · unfold Sl.sub; simp [ha]
    · rw [List.getElem?_take] at hu
      split at hu
      · exact hu
      · simp at hu
/-! ### scripts -/
structure JOp where
  K : Int
  N : Int
  L : SlW
  P : SlW
  k : Int
  ls : List ByteArray
  ks : List Bool
instance : Inhabited JOp := ⟨⟨0, 0, ⟨none, 0, 0⟩, ⟨none, 0, 0⟩, 0, [], []⟩⟩
def JOp.cells (o : JOp) : List Value := [.int .i64 o.K, .int .i64 o.N, swv o.L, swv o.P, .int .i64 o.k]
structure JOp.ok (H : SH) (o : JOp) : Prop where
  l1 : o.L.len = o.ls.length
  l2 : H.rowW o.L.a (strc o.ls)
  p1 : o.P.len = o.ks.length
  p2 : o.P.len ≤ o.P.cap
  p3 : H.rowW o.P.a (o.ks.map fun x => .bool x)
  n : o.N ≤ 9223372036854775807
theorem JOp.ok.le {H H' : SH} {o : JOp} (h : o.ok H) (k : SH.le H H') : o.ok H' := ⟨h.l1, h.l2.le k, h.p1, h.p2, h.p3.le k, h.n⟩
def jpc (l : List JOp) : List Value := l.flatMap JOp.cells
theorem jpc_get : ∀ {l : List JOp} {i j : Nat} (h : i < l.length), j < 5 → (jpc l)[i * 5 + j]? = (l[i].cells)[j]?
  | a :: l, 0, j, h, hj => by
    have e : jpc (a :: l) = a.cells ++ jpc l := rfl
    rw [e, Nat.zero_mul, Nat.zero_add, List.getElem?_append_left (by show j < 5; exact hj)]; rfl
  | a :: l, i + 1, j, h, hj => by
    have e : jpc (a :: l) = a.cells ++ jpc l := rfl
    have e2 : (i + 1) * 5 + j = a.cells.length + (i * 5 + j) := by show _ = 5 + _; omega
    rw [e, e2, List.getElem?_append_right (by omega), Nat.add_sub_cancel_left]
    exact jpc_get (by simpa using h) hj
theorem row_jop {H : SH} {l : Sl} {xs : List JOp} {i : Nat} (hr : H.row l.a (jpc xs)) (h : i < xs.length) : ∃ p, l.a = some p ∧ H.row (some (p.1, p.2 + i * 5)) xs[i].cells := by
  rcases hr with h0 | ⟨p, o, ha, hb, hh⟩
  · have := jpc_get h (j := 0) (by omega)
    rw [h0] at this
    simp [JOp.cells] at this
  · refine ⟨p, ha, .inr ⟨_, o, rfl, hb, fun j u hu => ?_⟩⟩
    have hj : j < 5 := (List.getElem?_eq_some_iff.1 hu).1
    have := hh (i * 5 + j) u (by rw [jpc_get h hj]; exact hu)
    simpa [Nat.add_assoc] using this
def JOp.ao (o : JOp) : AO := ⟨o.cells, 57, false, 5⟩
section
variable {F : Nat} {H H0 : SH} {bd bj : Nat} {m : DM}
theorem DownJ {b : Nat} (h : On (DiskI b m) H0 H) {K : Bool → SH → Prop} (k : K m.down H) : disk_Disk_Down.wp F (some (b, 0)) H K := by
  obtain ⟨S1, S2, W, H1, H2, H3, h1, h2, h3, h4⟩ := disk_open h
  exact p_some ⟨m.down, h1.has rfl, H, .refl H, k⟩
theorem FuseJ {b : Nat} {n : Int} (h : On (DiskI b m) H0 H) {K : SH → Prop} (k : ∀ H', On (DiskI b (m.fuse n)) H0 H' → K H') : disk_Disk_Fuse.wp F (some (b, 0)) n H K := by
  obtain ⟨S1, S2, W, H1, H2, H3, h1, h2, h3, h4⟩ := disk_open h
  refine p_some ⟨h1.wrs rfl (Nat.le_of_ble_eq_true rfl), _, .refl _, k _ ?_⟩
  have e : imax n (-1) = max n (-1) := by unfold imax; split <;> omega
  rw [e]
  exact disk_close (m := m.fuse n) (On.setl (k := 0) (vs := [.int .i64 (max n (-1))]) h1) h2 h3 h4
def jn (ja : List ByteArray) : Nat := (flatS (ja.map bs)).length
theorem jn_le {ja : List ByteArray} (h : ∀ s ∈ ja, s.size ≤ 100) : jn ja ≤ ja.length * 106 := flat_le h
theorem Jst.ja {i : Nat} {ja all : List ByteArray} {safe : Nat} (h : Jst i m ja all safe) : ja.length ≤ 60 * i ∧ (∀ s ∈ ja, s.size ≤ 100) ∧ all.take ja.length = ja := by
  obtain ⟨t, ht⟩ := h.pre
  refine ⟨by have := h.len; rw [ht, List.length_append] at this; omega, fun s hs => h.short s (by rw [ht]; exact List.mem_append_left _ hs), by rw [ht, List.take_left]⟩
/-- What the loop comes to behind a call. -/
def Nxt (F f : Nat) (K : Bool → SH → Prop) (l : Sl) (n i : Nat) (bd : Nat) (H0 : SH) : Prop :=
  ∀ (m : DM) (ja all : List ByteArray) (safe bj : Nat) (A : Sl) (H : SH), Jst (i + 1) m ja all safe → Chain [jr bj bd ja (jn ja), dk bd m, slq A all] H0 H →
    ladinglaw15_JournalPlays.l1 F K f (some (bd, 0)) (some (bj, 0)) A (safe : Int) l (n : Int) ((i + 1 : Nat) : Int) H
theorem Plays_has {f : Nat} {K : Bool → SH → Prop} {l : Sl} {n i : Nat} (hF : 1000000 ≤ F) (hi : i < 60) (next : Nxt F f K l n i bd H0) {ja all : List ByteArray} {safe : Nat} {A : Sl} (h : Jst (i + 1) m ja all safe) (c : Chain [jr bj bd ja (jn ja), dk bd m, slq A all] H0 H) :
    ladinglaw15_JournalPlays.j3 F K (ladinglaw15_JournalPlays.l1 F K f) (some (bd, 0)) (some (bj, 0)) A (safe : Int) l (n : Int) (i : Int) H := by
  have go : ∀ H', SH.le H H' → ladinglaw15_JournalPlays.j2 F K (ladinglaw15_JournalPlays.l1 F K f) (some (bd, 0)) (some (bj, 0)) A (safe : Int) l (n : Int) (i : Int) H' := fun H' hle => by
    show ladinglaw15_JournalPlays.l1 F K f (some (bd, 0)) (some (bj, 0)) A (safe : Int) l (n : Int) (w64 ((i : Int) + 1)) H'
    rw [w64_id (by omega), show (i : Int) + 1 = ((i + 1 : Nat) : Int) by omega]
    exact next m ja all safe bj A H' h (Chain.above c hle)
  obtain ⟨h1, h2, h3⟩ := h.ja
  have h4 := jn_le h2
  obtain ⟨H1, j1, H2, d1, H3, s1, c3⟩ := c
  have j1 : On (JrI bj bd ja (jn ja)) H1 H := j1
  have d1 : On (DiskI bd m) H2 H1 := d1
  have s1 : On (SlI STR 1 A (strc all)) H3 H2 := s1
  have d2 := d1.above .disk j1.le
  refine DownJ d2 ?_
  cases hd : m.down with
  | true => exact br_t rfl (go H (.refl H))
  | false =>
    have ea := h.full hd
    subst ea
    have hX : jn all = (ofL (flatS (all.map bs))).size := by unfold jn; rw [ofL_size]
    rw [hX] at j1
    refine br_f (by simp) (has15_spec (by omega) (sl_len s1) (s1.row.le (d1.le.trans j1.le)) (by omega) (by omega) (fun s hs => by have := h2 s hs; omega) (by show jn all ≤ _; omega) hd h.log rfl d2 j1 fun H' hle => br_t rfl (go H' hle))
/-- 'all' grows by what was being put. -/
theorem Plays_all {f : Nat} {K : Bool → SH → Prop} {l : Sl} {n i b : Nat} {o : JOp} {e : Option EV} (hF : 1000000 ≤ F) (hi : i < 60) {HT : SH} (hle : SH.le H0 HT) (hb : HT b = some o.ao) (ho : o.ok HT) (hls : o.ls.length ≤ 60) (hK : o.K = 0 ∨ o.K = 1) (next : Nxt F f K l n i bd H0) {ja all : List ByteArray} {safe : Nat} {A : Sl} {x : Int}
    (h : ∀ safe', (o.K = 1 ∧ e = none ∧ safe' = (all ++ o.ls).length) ∨ (¬ (o.K = 1 ∧ e = none) ∧ safe' = safe) → Jst (i + 1) m ja (all ++ o.ls) safe') (hall : all.length ≤ 3600) (c : Chain [jr bj bd ja (jn ja), dk bd m, slq A all] HT H) (hx : x = safe) :
    ladinglaw15_JournalPlays.j7 F K (ladinglaw15_JournalPlays.l1 F K f) (some (bd, 0)) (some (bj, 0)) A x b e l (n : Int) (i : Int) H := by
  subst hx
  obtain ⟨H1, s1, c1⟩ := Chain.pull [jr bj bd ja (jn ja), dk bd m] c
  have s1 : On (SlI STR 1 A (strc all)) H1 H := s1
  have hA := sl_len s1
  refine ⟨HT, c.le, o.L, ⟨_, hb, rfl⟩, strc all, s1.row, fun b102 hb102 => ?_⟩
  have hown : Own H (H.upd b102 ⟨[], STR, false, 0⟩) STR 1 ⟨some (b102, 0), 0, 0⟩ [] :=
    ⟨le_upd hb102, rfl, .inr ⟨b102, [], rfl, hb102, Nat.le_refl _, 0, SH.upd_same _ _ _, by simp⟩⟩
  refine hown.append (by simp only [Nat.zero_add]; omega) (by simp only [Nat.zero_add]; omega) (by rw [strc_len]; omega) (by simp [strc, Value.oneCell']) fun l1 G1 o1 e1 => ⟨c.le.trans o1.le, strc o.ls, ho.l2.le (c.le.trans o1.le), ?_⟩
  have hL := ho.l1
  refine o1.append (by rw [e1]; simp only [Nat.zero_add]; omega) (by rw [e1]; simp only [Nat.zero_add]; omega) (by rw [strc_len]; omega) (by simp [strc, Value.oneCell']) fun l2 G2 o2 e2 => ?_
  have o3 := o2.on
  rw [show ([] : List Value) ++ strc all ++ strc o.ls = strc (all ++ o.ls) by simp [strc]] at o3
  have c2 : Chain [slq l2 (all ++ o.ls), jr bj bd ja (jn ja), dk bd m, slq A all] HT G2 := ⟨H, o3, c⟩
  have c3 := Chain.pull [slq l2 (all ++ o.ls)] c2
  have c4 := Chain.pull1 [slq l2 (all ++ o.ls)] c3
  have c5 : Chain [jr bj bd ja (jn ja), dk bd m, slq l2 (all ++ o.ls)] HT G2 := Chain.keep [jr bj bd ja (jn ja), dk bd m, slq l2 (all ++ o.ls)] c4
  have c6 := Chain.below c5 hle
  have hlen : l2.len = (all ++ o.ls).length := sl_len o3
  have fin : ∀ (x : Int) (safe' : Nat), x = safe' → (o.K = 1 ∧ e = none ∧ safe' = (all ++ o.ls).length) ∨ (¬ (o.K = 1 ∧ e = none) ∧ safe' = safe) → ladinglaw15_JournalPlays.j4 F K (ladinglaw15_JournalPlays.l1 F K f) (some (bd, 0)) (some (bj, 0)) l2 x l (n : Int) (i : Int) G2 := fun x safe' ex hs => by
    subst ex
    exact Plays_has hF hi next (h safe' hs) c6
  refine ⟨o.K, ⟨_, c5.le _ _ hb, rfl⟩, ?_⟩
  by_cases k1 : o.K = 1
  · cases e with
    | none => exact br_t k1 (o_none (fin _ (all ++ o.ls).length (by rw [hlen]) (.inl ⟨k1, rfl, rfl⟩)))
    | some v => exact br_t k1 (o_some (fin _ safe rfl (.inr ⟨fun h => (by cases h.2), rfl⟩)))
  · exact br_f k1 (fin _ safe rfl (.inr ⟨fun h => k1 h.1, rfl⟩))
/-- Behind a put: what it told. -/
theorem Plays_put {f : Nat} {K : Bool → SH → Prop} {l : Sl} {n i b : Nat} {o : JOp} {e : Nat} (hF : 1000000 ≤ F) (hi : i < 60) {HT : SH} (hle : SH.le H0 HT) (hg : H0.has (0, 0) (rtv 28)) (hb : HT b = some o.ao) (ho : o.ok HT) (hls : o.ls.length ≤ 60) (hK : o.K = 0 ∨ o.K = 1) (next : Nxt F f K l n i bd H0) {ja all : List ByteArray} {safe : Nat} {A : Sl}
    (he : e = 0 ∧ m.down = false ∨ e = 8 ∧ m.down = true) (h : ∀ safe', (o.K = 1 ∧ errN e = none ∧ safe' = (all ++ o.ls).length) ∨ (¬ (o.K = 1 ∧ errN e = none) ∧ safe' = safe) → Jst (i + 1) m ja (all ++ o.ls) safe') (hall : all.length ≤ 3600) (c : Chain [jr bj bd ja (jn ja), dk bd m, slq A all] HT H) :
    ladinglaw15_JournalPlays.j6 F K (ladinglaw15_JournalPlays.l1 F K f) (some (bd, 0)) (some (bj, 0)) A (safe : Int) b (errN e) l (n : Int) (i : Int) H := by
  have hgH : H.has (0, 0) (rtv 28) := hg.le (hle.trans c.le)
  obtain ⟨H1, d1, c1⟩ := Chain.pull [jr bj bd ja (jn ja)] c
  have d1 : On (DiskI bd m) H1 H := d1
  have fin := Plays_all (e := errN e) hF hi hle hb ho hls hK next h hall c rfl
  rcases he with ⟨e0, hd⟩ | ⟨e0, hd⟩
  · subst e0
    refine CodeS hgH (br_f (fun h => h rfl) (DownJ d1 ?_))
    rw [hd]
    exact br_f (fun h => h rfl) fin
  · subst e0
    refine CodeS hgH (br_t (by decide) (br_f (fun h => h rfl) (DownJ d1 ?_)))
    rw [hd]
    exact br_f (fun h => h rfl) fin
theorem Plays_loop {K : Bool → SH → Prop} {l : Sl} {ops : List JOp} (hF : 1000000 ≤ F) (hl : l.len = ops.length) (hr : H0.row l.a (jpc ops)) (h60 : ops.length ≤ 60) (hok : ∀ o ∈ ops, o.ok H0) (hg : H0.has (0, 0) (rtv 28)) (k : ∀ H', K true H') :
    ∀ (j i f : Nat) (m : DM) (ja all : List ByteArray) (safe bj : Nat) (A : Sl) (H : SH), ops.length - i = j → i ≤ ops.length → j < f → Jst i m ja all safe → Chain [jr bj bd ja (jn ja), dk bd m, slq A all] H0 H →
      ladinglaw15_JournalPlays.l1 F K f (some (bd, 0)) (some (bj, 0)) A (safe : Int) l (ops.length : Int) (i : Int) H := by
  intro j
  induction j with
  | zero =>
    intro i f m ja all safe bj A H hj hi hf h c
    obtain ⟨f, rfl⟩ : ∃ i, f = i + 1 := ⟨f - 1, by omega⟩
    exact br_f (by omega) ⟨H, .refl H, k H⟩
  | succ j ih =>
    intro i f m ja all safe bj A H hj hi hf h c
    obtain ⟨f, rfl⟩ : ∃ i, f = i + 1 := ⟨f - 1, by omega⟩
    have hlt : i < ops.length := by omega
    have next : Nxt F f K l ops.length i bd H0 := fun m ja all safe bj A H h c => ih (i + 1) f m ja all safe bj A H (by omega) (by omega) (by omega) h c
    have ho0 := hok _ (List.getElem_mem hlt)
    obtain ⟨p, hp, hrow⟩ := row_jop (hr.le c.le) hlt
    have hi60 : i < 60 := by omega
    generalize hoi : ops[i] = o at *
    refine br_t (by omega) ⟨p, hp, by omega, by omega, o.K, o.N, o.L, o.P, o.k, hrow, fun b hb => ⟨wrs_upd rfl (Nat.le_refl _), ?_⟩⟩
    have eset : SH.setl (SH.upd H b ⟨[.int .i64 0, .int .i64 0, sv Sl.nil, sv Sl.nil, .int .i64 0], 57, false, 5⟩) (b, 0) [.int .i64 o.K, .int .i64 o.N, swv o.L, swv o.P, .int .i64 o.k] = SH.upd H b o.ao := by
      rw [setl_upd]; rfl
    rw [eset]
    obtain ⟨HT, c1, ht, hle⟩ := c.temp hb o.ao
    have hbG : (SH.upd H b o.ao) b = some o.ao := SH.upd_same _ _ _
    generalize SH.upd H b o.ao = G at *
    have ho := ho0.le hle
    have hgT := hg.le hle
    refine ⟨o.L, ⟨_, hbG, rfl⟩, great15w (by omega) ho.l1 (ho.l2.le c1.le) (br_t rfl ⟨G, .refl _, k _⟩) fun hls hsz => br_f (by simp) ⟨o.P, ⟨_, hbG, rfl⟩, fun _ => ⟨G, .refl _, k _⟩, fun hks => ⟨o.K, ⟨_, hbG, rfl⟩, ?_⟩⟩⟩
    have hks' : o.ks.length ≤ 100 := by have := ho.p1; omega
    obtain ⟨q1, q2, q3⟩ := h.ja
    have q4 := jn_le q2
    have q5 := h.len
    have hfl := flat_le hsz
    have hE8 : ∀ m : DM, m.appendE = 0 ∨ m.appendE = 8 := fun m => by unfold DM.appendE DM.burnE; split <;> (try split) <;> simp
    -- a put
    have put : o.K = 0 ∨ o.K = 1 → ladinglaw15_JournalPlays.j5 F K (ladinglaw15_JournalPlays.l1 F K f) (some (bd, 0)) (some (bj, 0)) A (safe : Int) b l (ops.length : Int) (i : Int) o.K true G := fun hK => by
      obtain ⟨hp0, hp8⟩ := h.put (L := o.ls) hls hsz
      have hjn : ∀ L : List ByteArray, jn ja + (flatS (L.map bs)).length = jn (ja ++ L) := fun L => by unfold jn; rw [List.map_append, flatS_append, List.length_append]
      refine br_t rfl ⟨o.K, ⟨_, hbG, rfl⟩, ?_⟩
      by_cases k0 : o.K = 0
      · refine br_t k0 ⟨o.L, ⟨_, hbG, rfl⟩, JPut_specW (HL := HT) (ss := o.ls) (by omega) h.good (by omega) ho.l1 ho.l2 (.refl _) (fun s hs => by have := hsz s hs; omega) (by omega) (by omega) (by omega) (by omega) (by omega) c1 (fun hE H' c2 => ?_) (fun hE H' c2 => ?_)⟩
        · obtain ⟨d1, d2, d3⟩ := hp0 hE
          rw [hjn] at c2
          exact Plays_put (e := 0) hF hi60 hle hg ht ho hls hK next (.inl ⟨rfl, d1⟩) (fun safe' hs => by
            rcases hs with ⟨h1, _⟩ | ⟨_, h1⟩
            · omega
            · subst h1; exact d3) (by omega) c2
        · obtain ⟨d1, d2, d3⟩ := hp8 hE
          rw [d2]
          exact Plays_put (e := 8) hF hi60 hle hg ht ho hls hK next (.inr ⟨rfl, d1⟩) (fun safe' hs => by
            rcases hs with ⟨h1, _⟩ | ⟨_, h1⟩
            · omega
            · subst h1; exact d3) (by omega) c2
      · have k1 : o.K = 1 := hK.resolve_left k0
        refine br_f k0 ⟨o.L, ⟨_, hbG, rfl⟩, JWrite_specW (HL := HT) (ss := o.ls) (by omega) h.good (by omega) ho.l1 ho.l2 (.refl _) (fun s hs => by have := hsz s hs; omega) (by omega) (by omega) (by omega) (by omega) (by omega) c1 (fun hE H' c2 => ?_) (fun hE H' c2 => ?_)⟩
        · obtain ⟨d1, d2, d3⟩ := hp0 hE
          obtain ⟨s0, s8⟩ := d3.sync
          rw [hjn] at c2
          rcases hE8 (m.append (ofL (flatS (o.ls.map bs)))) with e0 | e8
          · obtain ⟨t1, t2, t3⟩ := s0 e0
            rw [e0]
            exact Plays_put (e := 0) hF hi60 hle hg ht ho hls hK next (.inl ⟨rfl, t1⟩) (fun safe' hs => by
              rcases hs with ⟨_, _, h1⟩ | ⟨h1, _⟩
              · subst h1; exact t3
              · exact absurd ⟨k1, rfl⟩ h1) (by omega) c2
          · obtain ⟨t1, t2, t3⟩ := s8 (by rw [show (m.append (recs o.ls)).appendE = 8 from e8]; decide)
            rw [e8]
            exact Plays_put (e := 8) hF hi60 hle hg ht ho hls hK next (.inr ⟨rfl, t1⟩) (fun safe' hs => by
              rcases hs with ⟨_, h1, _⟩ | ⟨_, h1⟩
              · cases h1
              · subst h1; exact t3) (by omega) c2
        · obtain ⟨d1, d2, d3⟩ := hp8 hE
          rw [d2]
          exact Plays_put (e := 8) hF hi60 hle hg ht ho hls hK next (.inr ⟨rfl, d1⟩) (fun safe' hs => by
            rcases hs with ⟨_, h1, _⟩ | ⟨_, h1⟩
            · cases h1
            · subst h1; exact d3) (by omega) c2
    have rest : ¬ (o.K = 0 ∨ o.K = 1) → ladinglaw15_JournalPlays.j5 F K (ladinglaw15_JournalPlays.l1 F K f) (some (bd, 0)) (some (bj, 0)) A (safe : Int) b l (ops.length : Int) (i : Int) o.K false G := fun hK => by
      refine br_f (by simp) ?_
      by_cases k2 : o.K = 2
      · refine br_t k2 (JFlush_spec h.good c1 fun H' c2 => ?_)
        obtain ⟨s0, s8⟩ := h.sync
        obtain ⟨H2, d2, _⟩ := Chain.pull [jr bj bd ja (jn ja)] c2
        have d2 : On (DiskI bd m.sync) H2 H' := d2
        have hA : A.len = all.length := by
          obtain ⟨H3, s3, _⟩ := Chain.pull [jr bj bd ja (jn ja), dk bd m.sync] c2
          exact sl_len s3
        rcases hE8 m with e0 | e8
        · obtain ⟨t1, t2, t3⟩ := s0 e0
          rw [e0]
          refine o_none ⟨false, DownJ d2 ⟨t1, rfl⟩, br_f (fun h => h rfl) ?_⟩
          rw [hA]
          exact Plays_has hF hi60 next (t3.more (by omega)) (Chain.below c2 hle)
        · obtain ⟨t1, t2, t3⟩ := s8 (by rw [e8]; decide)
          rw [e8]
          refine o_some ⟨true, DownJ d2 ⟨t1, rfl⟩, br_f (fun h => h rfl) ?_⟩
          exact Plays_has hF hi60 next (t3.more (by omega)) (Chain.below c2 hle)
      refine br_f k2 ?_
      by_cases k3 : o.K = 3
      · have cd := Chain.pull [jr bj bd ja (jn ja)] c1
        obtain ⟨H2, d2, c3⟩ := cd
        have d2 : On (DiskI bd m) H2 G := d2
        refine br_t k3 (DownJ d2 ?_)
        cases hd : m.down with
        | true => exact br_t rfl (Plays_has hF hi60 next (h.more (by omega)) (Chain.below c1 hle))
        | false =>
          refine br_f (by simp) ⟨o.N, ⟨_, hbG, rfl⟩, FuseJ d2 fun H' d3 => ?_⟩
          have c4 : Chain [dk bd (m.fuse o.N), jr bj bd ja (jn ja), slq A all] HT H' := ⟨H2, d3, c3⟩
          exact Plays_has hF hi60 next ((h.fuse ho.n).more (by omega)) (Chain.below (Chain.pull [dk bd (m.fuse o.N)] c4) hle)
      refine br_f k3 ?_
      by_cases k4 : o.K = 4
      · obtain ⟨H2, d2, c3⟩ := Chain.pull [jr bj bd ja (jn ja)] c1
        have d2 : On (DiskI bd m) H2 G := d2
        have c3 : Chain [jr bj bd ja (jn ja), slq A all] HT H2 := c3
        refine br_t k4 ⟨o.P, o.k, rowN hbG (fun q u hu => ?_), gCrashW (ks := o.ks) h.good (by omega) ho.p1 ho.p2 (by omega) (ho.p3.le c3.le) d2 fun H3 d3 => ?_⟩
        · cases q with
          | zero => simpa [JOp.ao, JOp.cells] using hu
          | succ q => cases q with
            | zero => simpa [JOp.ao, JOp.cells] using hu
            | succ q => simp at hu
        obtain ⟨kk, rst, e, w1, w2, w3, w4⟩ := h.crash o.ks o.k
        obtain ⟨v1, v2, v3, v4, v5⟩ := h.opened o.ks o.k w2 w3
        have gC := h.good.crash (ks := o.ks) (lack := o.k)
        have hlogC : (m.crash o.ks o.k).now.log.size ≤ 5000 + 6500 * i := gC.fit.log
        have tk : ∀ s ∈ ja.take kk, s.size ≤ 100 := fun s hs => q2 s (List.mem_of_mem_take hs)
        have tk2 : ∀ t ∈ (ja.take kk).map bs, t.length ≤ 60000 := fun t ht => by
          obtain ⟨s, h1, rfl⟩ := List.mem_map.1 ht
          have := tk s h1
          rw [bs_len]; omega
        have tkl : (ja.take kk).length = kk := by rw [List.length_take]; omega
        refine Open_spec2 (ts := (ja.take kk).map bs) (rest := rst) (by omega) gC rfl rfl (by omega) (by omega) w3 w4 tk2 d3 fun bj2 H4 c4 => ?_
        rw [ofL_map] at c4
        generalize hm2 : (m.crash o.ks o.k).opened (flatS ((ja.take kk).map bs)).length = m2 at *
        have c5 : Chain [jr bj2 bd (ja.take kk) (jn (ja.take kk)), dk bd m2, jr bj bd ja (jn ja), slq A all] HT H4 := Chain.append c4 c3
        obtain ⟨H5, j5, c6⟩ := c5
        have j5 : On (JrI bj2 bd (ja.take kk) (jn (ja.take kk))) H5 H4 := j5
        refine o_none (JAll_spec (by omega) j5 fun lg H6 og => ?_)
        have hlg : lg.len = (ja.take kk).length := sl_len og
        have c7 : Chain [slq lg (ja.take kk), jr bj2 bd (ja.take kk) (jn (ja.take kk)), dk bd m2, jr bj bd ja (jn ja), slq A all] HT H6 := ⟨H4, og, H5, j5, c6⟩
        obtain ⟨H7, s7, _⟩ := Chain.pull [slq lg (ja.take kk), jr bj2 bd (ja.take kk) (jn (ja.take kk)), dk bd m2, jr bj bd ja (jn ja)] c7
        have s7 : On (SlI STR 1 A (strc all)) H7 H6 := s7
        have hA := sl_len s7
        have hAc := s7.cap
        have hja : ja.length ≤ all.length := by
          obtain ⟨t, ht⟩ := h.pre
          rw [ht, List.length_append]; omega
        have htk : all.take kk = ja.take kk := by
          obtain ⟨t, ht⟩ := h.pre
          rw [ht, List.take_append_of_le_length w2]
        refine br_f (by omega) (br_f (by omega) ⟨by omega, by omega, by omega, ?_⟩)
        have hrow2 : H6.row (Sl.sub 1 A (0 : Int).toNat ((lg.len : Nat) : Int).toNat A.cap).a (strc (ja.take kk)) := by
          have h1 := row_sub0 (n := kk) s7.row
          have e1 : (strc all).take kk = strc (ja.take kk) := by
            rw [← htk]; unfold strc; rw [List.map_take]
          rw [e1] at h1
          have e2 : ((lg.len : Nat) : Int).toNat = kk := by rw [Int.toNat_natCast, hlg, tkl]
          rw [e2]; exact h1
        have hdec : decide (ja.take kk = ja.take kk) = true := decide_eq_true rfl
        refine Same9_spec (ss := ja.take kk) (tt := ja.take kk) hlg ?_ og.row hrow2 (by omega) (by omega) ?_
        · show ((lg.len : Nat) : Int).toNat - (0 : Int).toNat = _
          rw [Int.toNat_natCast]; show lg.len - 0 = _; omega
        rw [hdec]
        -- opened once more
        obtain ⟨H8, d8, c9⟩ := Chain.pull [slq lg (ja.take kk), jr bj2 bd (ja.take kk) (jn (ja.take kk))] c7
        have d8 : On (DiskI bd m2) H8 H6 := d8
        have hsz2 : (flatS ((ja.take kk).map bs)).length = m2.now.log.size := by rw [v1.log, ofL_size]
        have hm2s : m2.now.log.size ≤ 5000 + 6500 * i := v1.good.fit.log
        refine br_t rfl (Open_spec2 (ts := (ja.take kk).map bs) (rest := []) (by omega) v1.good v2 v3 (by omega) (by omega) (by rw [v1.log, bs_ofL, List.append_nil]) nextL_nil tk2 d8 fun bj3 H9 c10 => ?_)
        rw [ofL_map, opened_same v2 v3 v4 hsz2 v5] at c10
        have c11 : Chain [jr bj3 bd (ja.take kk) (jn (ja.take kk)), dk bd m2, slq lg (ja.take kk), jr bj2 bd (ja.take kk) (jn (ja.take kk)), jr bj bd ja (jn ja), slq A all] HT H9 := Chain.append c10 c9
        obtain ⟨H10, j10, c12⟩ := c11
        have j10 : On (JrI bj3 bd (ja.take kk) (jn (ja.take kk))) H10 H9 := j10
        refine o_none (JAll_spec (by omega) j10 fun lh H11 oh => ?_)
        obtain ⟨H12, s12, c13⟩ := Chain.pull [dk bd m2] c12
        have s12 : On (SlI STR 1 lg (strc (ja.take kk))) H12 H10 := s12
        refine Same9_spec (ss := ja.take kk) (tt := ja.take kk) (sl_len oh) hlg oh.row (s12.row.le (j10.le.trans oh.le)) (by omega) (by omega) ?_
        rw [hdec]
        obtain ⟨H13, d13, c14⟩ := c12
        have d13 : On (DiskI bd m2) H13 H10 := d13
        refine br_t rfl (Waits_spec (d13.above .disk (j10.le.trans oh.le)) ?_)
        rw [v4]
        refine br_f (by simp) ?_
        -- the journal, the disk, what was got
        have c15 : Chain [dk bd m2, slq lg (ja.take kk), jr bj2 bd (ja.take kk) (jn (ja.take kk)), jr bj bd ja (jn ja), slq A all] HT H11 := Chain.above (L := [dk bd m2, slq lg (ja.take kk), jr bj2 bd (ja.take kk) (jn (ja.take kk)), jr bj bd ja (jn ja), slq A all]) ⟨H13, d13, c14⟩ (j10.le.trans oh.le)
        have c16 := Chain.pull [dk bd m2, slq lg (ja.take kk)] c15
        have c17 : Chain [jr bj2 bd (ja.take kk) (jn (ja.take kk)), dk bd m2, slq lg (ja.take kk)] HT H11 := Chain.keep [jr bj2 bd (ja.take kk) (jn (ja.take kk)), dk bd m2, slq lg (ja.take kk)] c16
        rw [hlg, tkl]
        exact Plays_has hF hi60 next (v1.more (by omega)) (Chain.below c17 hle)
      · exact br_f k4 (Plays_has hF hi60 next (h.more (by omega)) (Chain.below c1 hle))
    by_cases k0 : o.K = 0
    · refine br_t k0 ?_
      have : (o.K == 0) = true := beq_iff_eq.2 k0
      rw [this]; exact put (.inl k0)
    · refine br_f k0 ?_
      by_cases k1 : o.K = 1
      · have : (o.K == 1) = true := beq_iff_eq.2 k1
        rw [this]; exact put (.inr k1)
      · have : (o.K == 1) = false := beq_eq_false_iff_ne.2 k1
        rw [this]; exact rest (fun h => h.elim k0 k1)
theorem JournalPlays_wp {l : Sl} {ops : List JOp} (hF : 1000000 ≤ F) (hl : l.len = ops.length) (hr : H.row l.a (jpc ops)) (hok : ∀ o ∈ ops, o.ok H) (hg : H.has (0, 0) (rtv 28)) : ladinglaw15_JournalPlays.wp F l H (fun b _ => b = true) := by
  refine awake15_spec (by omega) fun H1 hle => br_t rfl ⟨fun _ => ⟨H1, .refl _, rfl⟩, fun c60 => New_spec (n := 0) (by decide) fun bd H2 d2 hbd => ?_⟩
  have e0 : (DM.new 0).opened (flatS []).length = DM.new 0 := rfl
  refine Open_spec2 (ts := []) (rest := []) (by omega) new_has.good rfl rfl (by decide) (by show 0 < F; omega) rfl nextL_nil (by simp) d2 fun bj H3 c3 => ?_
  rw [e0] at c3
  have c4 : Chain [jr bj bd [] (jn []), dk bd (DM.new 0)] H1 H3 := c3
  have c5 : Chain [slq Sl.nil [], jr bj bd [] (jn []), dk bd (DM.new 0)] H1 H3 := ⟨H3, On.nil STR 1 H3, c4⟩
  have c6 := Chain.pull1 [slq Sl.nil []] (Chain.pull [slq Sl.nil []] c5)
  refine o_none ?_
  rw [hl]
  have hst : Jst 0 (DM.new 0) [] [] 0 := ⟨(good_new (by omega)).more (by omega), by simp, by simp, rfl, ⟨[], rfl⟩, fun _ => rfl, [], [], rfl, rfl, rfl, by simp, Nat.le_refl _⟩
  exact Plays_loop (H0 := H1) hF hl (hr.le hle) (by omega) (fun o ho => (hok o ho).le hle) (hg.le hle) (K := fun b _ => b = true) (fun _ => rfl) ops.length 0 F (DM.new 0) [] [] 0 bj Sl.nil H3 (by omega) (by omega) (by omega) hst c6
end
open Go.RowKit Go.ChangeShapes Go.WideShapes Go.ChangeAt Go.Deep in
theorem cell_spot0 {W : World} {a : Addr} {v : Value} (h : W.cell? a = some v) : a = ad (a.block, a.off) := by
  unfold World.cell? at h
  split at h
  · split at h
    · cases h
    · rename_i hs
      cases a with
      | mk b o s =>
        cases s with
        | none => rfl
        | some s => simp at hs
  · cases h
open Go.RowKit Go.ChangeShapes Go.WideShapes Go.ChangeAt Go.Deep in
/-- A slice of texts, with any address. -/
theorem cell_strsW {H : Type} {enc : TypeId × Value → H} {P : Program} {W : World} {t e : TypeId} {v : Value} {n : Nat} {y : DataW H × List MemPlace} (ht : P.underlying t = some (.slice e)) (he : P.underlying e = some .string) (hc : P.cellsOf e = 1) (hd : DataW.trod enc P W 0 (fun _ => true) true n t [v] = some y) :
    ∃ (w : SlW) (ss : List ByteArray), v = swv w ∧ w.len = ss.length ∧ w.len ≤ w.cap ∧ (SH.of W).rowW w.a (ss.map fun s => .string s) := by
  rcases open_strs ht he hc hd with ⟨h1, _⟩ | ⟨a', len', cap', m, Sx, h1, _, hl, hm, hmm, _, hx⟩
  · obtain rfl : v = .slice none 0 0 := by simpa using h1
    exact ⟨⟨none, 0, 0⟩, [], rfl, rfl, Nat.le_refl _, .inl rfl⟩
  · obtain rfl : v = .slice (some a') len' cap' := by simpa using h1
    simp only [if_true] at hmm
    refine ⟨⟨some a', len', cap'⟩, (List.range len').map Sx, rfl, by simp, hl, ?_⟩
    by_cases h0 : len' = 0
    · left; subst h0; simp
    · have hz := (hx 0 (by omega)).1
      have ha : a' = ad (a'.block, a'.off) := cell_spot0 (v := .string (Sx 0)) (by have : a'.add 0 = a' := rfl; rw [← this]; exact hz)
      refine .inr ⟨(a'.block, a'.off), by rw [← ha], ?_⟩
      have := SH.of_row (W := W) (p := (a'.block, a'.off)) (n := len') (V := fun i => .string (Sx i)) fun i hi => by rw [← ha]; exact (hx i (by omega)).1
      simpa [cellsF, Function.comp_def] using this
open Go.RowKit Go.ChangeShapes Go.WideShapes Go.ChangeAt Go.Deep in
theorem cell_boolsW {H : Type} {enc : TypeId × Value → H} {P : Program} {W : World} {t e : TypeId} {v : Value} {n : Nat} {y : DataW H × List MemPlace} (ht : P.underlying t = some (.slice e)) (he : P.underlying e = some .bool) (hc : P.cellsOf e = 1) (hd : DataW.trod enc P W 0 (fun _ => true) true n t [v] = some y) :
    ∃ (w : SlW) (bl : List Bool), v = swv w ∧ w.len = bl.length ∧ w.len ≤ w.cap ∧ (SH.of W).rowW w.a (bl.map fun s => .bool s) := by
  rcases open_bools ht he hc hd with ⟨h1, _⟩ | ⟨a', len', cap', Sx, h1, _, hl, _, _, hx⟩
  · obtain rfl : v = .slice none 0 0 := by simpa using h1
    exact ⟨⟨none, 0, 0⟩, [], rfl, rfl, Nat.le_refl _, .inl rfl⟩
  · obtain rfl : v = .slice (some a') len' cap' := by simpa using h1
    refine ⟨⟨some a', len', cap'⟩, (List.range len').map Sx, rfl, by simp, hl, ?_⟩
    by_cases h0 : len' = 0
    · left; subst h0; simp
    · have hz := hx 0 (by omega)
      have ha : a' = ad (a'.block, a'.off) := cell_spot0 (v := .bool (Sx 0)) (by have : a'.add 0 = a' := rfl; rw [← this]; exact hz)
      refine .inr ⟨(a'.block, a'.off), by rw [← ha], ?_⟩
      have := SH.of_row (W := W) (p := (a'.block, a'.off)) (n := len') (V := fun i => .bool (Sx i)) fun i hi => by rw [← ha]; exact hx i (by omega)
      simpa [cellsF, Function.comp_def] using this
set_option maxRecDepth 100000 in
open Go.RowKit Go.ChangeShapes Go.WideShapes Go.ChangeAt Go.Deep in
/-- '[]Op' as an argument. -/
theorem arg_jops {H : Type} {enc : TypeId × Value → H} {W : World} {base : Nat} {v : Value} {d : DataW H} {p : List MemPlace} (hval : Value.okWide Tryd.prog W .any base 51 v) (hd : DataW.Trod enc Tryd.prog W 0 (fun _ => true) true 51 v d p) :
    ∃ (l : Sl) (ops : List JOp), v = sv l ∧ l.len = ops.length ∧ l.len ≤ l.cap ∧ (SH.of W).row l.a (jpc ops) ∧ ∀ o ∈ ops, o.ok (SH.of W) := by
  obtain ⟨l, V, n, rfl, hl, hr, hx⟩ := arg_rowsG (c := 5) Tryd.underlying51 (by kernel_rfl) hval hd
  have each : ∀ i, i < l.len → ∃ o : JOp, (List.range 5).map (fun j => V (i * 5 + j)) = o.cells ∧ o.ok (SH.of W) := fun i hi => by
    obtain ⟨y, hy⟩ := hx i hi
    obtain ⟨xs, n', _, _, _, hxl, hf⟩ := DataW.trod_struct Tryd.underlying57 hy
    have e : (List.range 5).map (fun j => V (i * 5 + j)) = [V (i * 5), V (i * 5 + 1), V (i * 5 + 2), V (i * 5 + 3), V (i * 5 + 4)] := rfl
    rw [e] at hf ⊢
    have hl4 : xs.length = 4 := hxl
    have g0 := hf 0 _ rfl
    have g1 := hf 1 _ rfl
    have g2 := hf 2 _ rfl
    have g3 := hf 3 _ rfl
    rw [List.getElem?_eq_getElem (by omega)] at g0 g1 g2 g3
    have g0' : DataW.trod enc Tryd.prog W 0 (fun _ => true) true n' 3 [V (i * 5)] = some xs[0] := g0
    have g1' : DataW.trod enc Tryd.prog W 0 (fun _ => true) true n' 3 [V (i * 5 + 1)] = some xs[1] := g1
    have g2' : DataW.trod enc Tryd.prog W 0 (fun _ => true) true n' 55 [V (i * 5 + 2)] = some xs[2] := g2
    have g3' : DataW.trod enc Tryd.prog W 0 (fun _ => true) true n' 36 [V (i * 5 + 3), V (i * 5 + 4)] = some xs[3] := g3
    obtain ⟨a0, h0, _, w0⟩ := DataW.trod_int Tryd.underlying3 g0'
    obtain ⟨a1, h1, _, w1⟩ := DataW.trod_int Tryd.underlying3 g1'
    obtain ⟨L, ls, h2, l1, l2, l3⟩ := cell_strsW Tryd.underlying55 Tryd.underlying9 (by kernel_rfl) g2'
    obtain ⟨ys, n2, _, _, _, hyl, hf2⟩ := DataW.trod_struct Tryd.underlying36 g3'
    have hy2 : ys.length = 2 := hyl
    have q0 := hf2 0 _ rfl
    have q1 := hf2 1 _ rfl
    rw [List.getElem?_eq_getElem (by omega)] at q0 q1
    have q0' : DataW.trod enc Tryd.prog W 0 (fun _ => true) true n2 22 [V (i * 5 + 3)] = some ys[0] := q0
    have q1' : DataW.trod enc Tryd.prog W 0 (fun _ => true) true n2 3 [V (i * 5 + 4)] = some ys[1] := q1
    obtain ⟨P, ks, h3, p1, p2, p3⟩ := cell_boolsW Tryd.underlying22 Tryd.underlying4 (by kernel_rfl) q0'
    obtain ⟨a4, h4, _, _⟩ := DataW.trod_int Tryd.underlying3 q1'
    simp only [List.cons.injEq, and_true] at h0 h1 h4
    exact ⟨⟨a0, a1, L, P, a4, ls, ks⟩, by rw [h0, h1, h2, h3, h4]; rfl, l1, l3, p1, p2, p3, (lit_range w1).2⟩
  obtain ⟨f, hf⟩ := choose_lt each
  refine ⟨l, (List.range l.len).map f, rfl, by simp, hl, ?_, fun o ho => ?_⟩
  · have e : jpc ((List.range l.len).map f) = cellsF (l.len * 5) V := by
      have : ∀ m, m ≤ l.len → jpc ((List.range m).map f) = cellsF (m * 5) V := by
        intro m
        induction m with
        | zero => intro _; rfl
        | succ m ih =>
          intro hm
          unfold jpc at ih ⊢
          rw [List.range_succ, List.map_append, List.flatMap_append, ih (by omega)]
          have g1 := (hf m (by omega)).1
          simp only [List.map_cons, List.map_nil, List.flatMap_cons, List.flatMap_nil, List.append_nil, ← g1]
          have e7 : (List.range 5).map (fun j => V (m * 5 + j)) = [V (m * 5), V (m * 5 + 1), V (m * 5 + 2), V (m * 5 + 3), V (m * 5 + 4)] := rfl
          rw [e7]
          simp only [cellsF, show (m + 1) * 5 = m * 5 + 1 + 1 + 1 + 1 + 1 by omega, List.range_succ, List.map_append, List.map_cons, List.map_nil]
          simp
      exact this _ (Nat.le_refl _)
    rw [e]; exact hr
  · obtain ⟨i, hi, rfl⟩ := List.mem_map.1 ho
    exact (hf i (List.mem_range.1 hi)).2
set_option maxRecDepth 100000 in
open Go.RowKit Go.ChangeShapes Go.WideShapes Go.ChangeAt Go.Deep in
theorem JournalPlays_walk {X : Prop} {H : Type} {enc : TypeId × Value → H} (W : World) (args : Array Value) (ds : List (DataW H)) (p : List MemPlace) (base : Nat)
    (hval : ∀ (j : Nat) t v, Tryd.f7.params[j]? = some t → args[j]? = some v → Value.okWide Tryd.prog W .any base t v) (hA : DataW.TrodAll enc Tryd.prog W 0 (fun _ => true) true Tryd.f7.params.toList args.toList ds p) (hfz : X)
    (hg : W.cell? ⟨0, 0, none⟩ = some (rtv 28)) :
    (∃ d, ds = [d]) ∧ Calls Tryd.prog 7 args W fun e w' => e = .returned (.bool true) ∧ RowKit.Below W.heap.size W w' := by
  rw [Tryd.params7] at hA hval
  obtain ⟨v0, vs0, d0, ds0, p0, q0, hargs, rfl, rfl, h0, r0⟩ := trodAll_cons hA
  obtain ⟨rfl, rfl, rfl⟩ := trodAll_nil r0
  obtain rfl : args = #[v0] := by cases args; simp_all
  obtain ⟨l, ops, rfl, hl, _, hr, hx⟩ := arg_jops (hval 0 51 v0 rfl rfl) h0
  refine ⟨⟨_, rfl⟩, ?_⟩
  have h := ladinglaw15_JournalPlays.sound 1000000 l (SH.of W) _ (JournalPlays_wp (by omega) hl hr hx (SH.of_cell (p := (0, 0)) hg)) W (SH.of_sat W)
  refine h.mono ?_
  rintro e w' ⟨v, H', rfl, st, q, rfl, rfl⟩
  exact ⟨rfl, st.below fun b o hb => SH.of_ro hb⟩
end Go.Proofs.YtknhlipealekoaaDoor.K
