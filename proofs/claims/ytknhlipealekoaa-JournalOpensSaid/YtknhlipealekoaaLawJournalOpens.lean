/- The law JournalOpens: what it comes to. -/
import Derived.Test.YtknhlipealekoaaSpecJournal
import Derived.Test.YtknhlipealekoaaSpecRefSeal
import Derived.Test.YtknhlipealekoaaLawJournal
import Derived.Test.YtknhlipealekoaaGladinglaw15JournalOpens
set_option linter.unusedVariables false
set_option linter.unusedSimpArgs false
namespace Go.Proofs.Ytknhlipealekoaa.K
open Go

/-- Any bytes are frames, and a rest that is none. -/
theorem flat_parts : ∀ (n : Nat) (B : List UInt8), B.length ≤ n → ∃ (ts : List (List UInt8)) (rest : List UInt8) (c : Int), B = flatS ts ++ rest ∧ nextL rest = .no c ∧ ∀ t ∈ ts, t.length ≤ 60000
  | 0, B, h => ⟨[], [], 3, by rw [List.eq_nil_of_length_eq_zero (by omega : B.length = 0)]; rfl, nextL_nil, by simp⟩
  | n + 1, B, h => by
    cases hn : nextL B with
    | no c => exact ⟨[], B, c, by simp [flatS], hn, by simp⟩
    | ok k =>
      obtain ⟨h1, h2, h3⟩ := nextL_ok hn
      obtain ⟨ts, rest, c, e1, e2, e3⟩ := flat_parts n (B.drop (k + 6)) (by rw [List.length_drop]; omega)
      refine ⟨(B.drop 6).take k :: ts, rest, c, ?_, e2, fun t ht => ?_⟩
      · rw [flatS_cons, h3, List.append_assoc, ← e1, List.take_append_drop]
      · rcases List.mem_cons.1 ht with rfl | ht
        · rw [List.length_take]; omega
        · exact e3 t ht
def slS (l : Sl) (cs : List ByteArray) : LP := ⟨SlI STR 1 l (strc cs), .sl⟩
def gcell (S : ByteArray) (nx e : Int) : AO := ⟨[.string S, .int .i64 nx, .int .i64 e], 43, false, 3⟩
section
variable {F : Nat} {H H0 : SH} {s : ByteArray} {m : DM} {bd : Nat}
theorem Opens_end (hF : 10000 ≤ F) (hs : s.size ≤ 600) (hm : m.good 1 5000) (hdn : m.down = false) (hlf : m.left = -1) (hlog : m.now.log = s) (hw : m.waits = [] → m.lasts = m.now) {ts : List (List UInt8)} {rest : List UInt8} {c : Int} (hb : bs s = flatS ts ++ rest) (hrest : nextL rest = .no c) (ht : ∀ t ∈ ts, t.length ≤ 60000)
    {l : Sl} (hc : Chain [slS l (ts.map ofL), dk bd m] H0 H) {K : Bool → SH → Prop} (k : ∀ H', K true H') :
    journal_Open.wp F (some (bd, 0)) H (fun p32 e33 H34 =>
        (e33 = none →
          journal_Journal_All.wp F p32 H34 (fun l36 H37 =>
            ladingref09_Same.wp F l36 l H37 (fun q38 H39 =>
              (q38 = true →
                journal_Journal_Bytes.wp F p32 H39 (fun x41 H42 =>
                  (x41 ≠ ((flatS ts).length : Int) →
                    ∃ Hr, SH.le Hr H42 ∧ K false Hr
                  ) ∧ (¬ (x41 ≠ ((flatS ts).length : Int)) →
                    disk_Disk_Waits.wp F (some (bd, 0)) H42 (fun x44 H45 =>
                      (x44 ≠ 0 →
                        ∃ Hr, SH.le Hr H45 ∧ K false Hr
                      ) ∧ (¬ (x44 ≠ 0) →
                        disk_Disk_Crash.wp F (some (bd, 0)) Sl.nil 0 H45 (fun H47 =>
                          disk_Disk_Log.wp F (some (bd, 0)) H47 (fun s48 e49 H50 =>
                            (e49 = none →
                              0 ≤ (0 : Int) ∧
                              (0 : Int) ≤ ((flatS ts).length : Int) ∧
                              ((flatS ts).length : Int) ≤ (s.size : Int) ∧
                              ∃ Hr, SH.le Hr H50 ∧ K (decide (s48 = (s.extract (0 : Int).toNat ((flatS ts).length : Int).toNat))) Hr
                            ) ∧ (∀ v51, e49 = some v51 →
                              ∃ Hr, SH.le Hr H50 ∧ K false Hr
                            )
                          )
                        )
                      )
                    )
                  )
                )
              ) ∧ (¬ (q38 = true) →
                ∃ Hr, SH.le Hr H39 ∧ K false Hr
              )
            )
          )
        ) ∧ (∀ v35, e33 = some v35 →
          ∃ Hr, SH.le Hr H34 ∧ K false Hr
        )) := by
  have hsz : s.size = (flatS ts).length + rest.length := by rw [← bs_len, hb, List.length_append]
  have htl : ts.length ≤ (flatS ts).length := by
    clear hb ht hsz hc
    induction ts with
    | nil => simp
    | cons u d ihd => rw [flatS_cons, List.length_append, sealL_len, List.length_cons]; omega
  obtain ⟨H1, d1, c1⟩ := Chain.pull [slS l (ts.map ofL)] hc
  have d1 : On (DiskI bd m) H1 H := d1
  refine Open_spec2 (ts := ts) (rest := rest) (by omega) hm hdn hlf (by rw [hlog]; omega) (by rw [hlog]; omega) (by rw [hlog]; exact hb) hrest ht d1 fun bj H2 c2 => ?_
  have eo := opened_free (m := m) (n := (flatS ts).length) hdn hlf (by rw [hlog]; omega) (fun hw1 _ => hw hw1)
  have hgo : (m.opened (flatS ts).length).good 1 5000 := hm.opened
  obtain ⟨H3, j3, c3⟩ := c2
  have j3 : On (JrI bj bd (ts.map ofL) (flatS ts).length) H3 H2 := j3
  refine o_none (JAll_spec (by simp; omega) j3 fun la Ha oa => ?_)
  obtain ⟨H4, s4, c4⟩ := c1
  have s4 : On (SlI STR 1 l (strc (ts.map ofL))) H4 H1 := s4
  have c3' : Chain [dk bd (m.opened (flatS ts).length)] H1 H3 := c3
  have hle : SH.le H1 Ha := (Chain.le c3').trans (j3.le.trans oa.le)
  have hdec : decide (ts.map ofL = ts.map ofL) = true := decide_eq_true rfl
  refine Same9_spec (sl_len oa) (sl_len s4) oa.row (s4.row.le hle) (by simp; omega) (by simp; omega) ?_
  rw [hdec]
  refine br_t rfl (JBytes_spec (j3.above .jr oa.le) (br_f (by simp) ?_))
  obtain ⟨H5, d5, c5⟩ := c3
  have d5 : On (DiskI bd (m.opened (flatS ts).length)) H5 H3 := d5
  have d6 : On (DiskI bd (m.opened (flatS ts).length)) H5 Ha := d5.above .disk (j3.le.trans oa.le)
  refine Waits_spec d6 ?_
  have hwz : (m.opened (flatS ts).length).waits = [] := by rw [eo]
  rw [hwz]
  refine br_f (by simp) (gCrash (ks := []) hgo (by omega) rfl (Nat.le_refl _) (by simp; omega) (.inl rfl) d6 fun H7 h7 => ?_)
  rw [crash_none] at h7
  refine Log_spec rfl h7 (o_none ⟨by omega, by omega, by omega, H7, .refl _, ?_⟩)
  have e : (⟨-1, false, (m.opened (flatS ts).length).lasts, (m.opened (flatS ts).length).lasts, []⟩ : DM).now.log = s.extract (0 : Int).toNat ((flatS ts).length : Int).toNat := by
    show (m.opened (flatS ts).length).lasts.log = _
    rw [eo]
    show m.now.log.extract 0 _ = _
    rw [hlog]; rfl
  rw [decide_eq_true e]
  exact k _
theorem Opens_loop (hF : 10000 ≤ F) (hs : s.size ≤ 600) (hm : m.good 1 5000) (hdn : m.down = false) (hlf : m.left = -1) (hlog : m.now.log = s) (hw : m.waits = [] → m.lasts = m.now) {rest : List UInt8} {c : Int} (hrest : nextL rest = .no c) (hc0 : c ≠ 0) {K : Bool → SH → Prop} (k : ∀ H', K true H') :
    ∀ (todo done : List (List UInt8)) (f : Nat) (l : Sl) (H : SH), bs s = flatS (done ++ todo) ++ rest → (∀ t ∈ done ++ todo, t.length ≤ 60000) → todo.length < f → Chain [slS l (done.map ofL), dk bd m] H0 H → ladinglaw15_JournalOpens.l1 F K f s (some (bd, 0)) ((flatS done).length : Int) l H := by
  intro todo
  induction todo with
  | nil =>
    intro done f l H hb ht hf hc
    obtain ⟨f, rfl⟩ : ∃ i, f = i + 1 := ⟨f - 1, by simp at hf; omega⟩
    rw [List.append_nil] at hb ht
    have hp : (flatS done).length ≤ s.size := by rw [← bs_len, hb]; simp
    refine refNext_spec (by omega) (by omega) (by omega) hp ?_
    rw [hb, List.drop_left, hrest]
    intro b26 hb26
    have o := On.new (o := gcell ByteArray.empty 0 0) hb26
    have q := On.setl (k := 0) (vs := [.string ByteArray.empty, .int .i64 ((flatS done).length : Int), .int .i64 c]) o
    refine ⟨o.wrs rfl (Nat.le_of_ble_eq_true rfl), c, q.has rfl, br_t hc0 ?_⟩
    exact Opens_end hF hs hm hdn hlf hlog hw hb hrest ht (Chain.above hc q.le) k
  | cons t todo ih =>
    intro done f l H hb ht hf hc
    obtain ⟨f, rfl⟩ : ∃ i, f = i + 1 := ⟨f - 1, by omega⟩
    have h60 := ht t (by simp)
    have hbb : bs s = flatS done ++ (sealL t ++ (flatS todo ++ rest)) := by rw [hb, flatS_append, flatS_cons]; simp
    have hp : (flatS done).length ≤ s.size := by rw [← bs_len, hbb]; simp
    have hsz : s.size = (flatS done).length + (t.length + 6) + (flatS todo).length + rest.length := by rw [← bs_len, hbb]; simp [sealL_len]; omega
    have hdl : done.length ≤ s.size := by
      have : ∀ d : List (List UInt8), d.length ≤ (flatS d).length := by
        intro d
        induction d with
        | nil => simp
        | cons u d ihd => rw [flatS_cons, List.length_append, sealL_len, List.length_cons]; omega
      have := this done; omega
    have hdr : (bs s).drop (flatS done).length = sealL t ++ (flatS todo ++ rest) := by rw [hbb, List.drop_left]
    refine refNext_spec (by omega) (by omega) (by omega) hp ?_
    rw [hdr, nextL_seal h60]
    intro b26 hb26
    have e : s.extract ((flatS done).length + 6) ((flatS done).length + 6 + t.length) = ofL t := by
      apply bs_inj
      rw [bs_extract, bs_ofL, List.drop_take, ← List.drop_drop, hdr]
      have e6 : (sealL t ++ (flatS todo ++ rest)).drop 6 = t ++ (flatS todo ++ rest) := by
        unfold sealL
        have : (fixL 4 (sumV (fixL 2 t.length ++ t)) ++ fixL 2 t.length).length = 6 := by simp [fixL_len]
        rw [List.append_assoc _ t, ← this, List.drop_left]
      rw [e6, show (flatS done).length + 6 + t.length - ((flatS done).length + 6) = t.length by omega, List.take_left]
    rw [e]
    have o := On.new (o := gcell ByteArray.empty 0 0) hb26
    refine ⟨o.wrs rfl (Nat.le_of_ble_eq_true rfl), 0, (On.setl o).has rfl, br_f (by simp) ?_⟩
    obtain ⟨G, hG⟩ : ∃ G, G = H.upd b26 (gcell (ofL t) (((flatS done).length + 6 + t.length : Nat) : Int) 0) := ⟨_, rfl⟩
    have hset : SH.setl (SH.upd H b26 (gcell ByteArray.empty 0 0)) (b26, 0) [.string (ofL t), .int .i64 (((flatS done).length + 6 + t.length : Nat) : Int), .int .i64 0] = G := by rw [hG, setl_upd]; rfl
    obtain ⟨H2, t1, t2, t3⟩ := Chain.temp hc hb26 (gcell (ofL t) (((flatS done).length + 6 + t.length : Nat) : Int) 0)
    rw [← hG] at t1
    have hGb : G b26 = some (gcell (ofL t) (((flatS done).length + 6 + t.length : Nat) : Int) 0) := by rw [hG, SH.upd_same]
    obtain ⟨H1, s1, d1⟩ := t1
    have s1 : On (SlI STR 1 l (strc (done.map ofL))) H1 G := s1
    have hlen := s1.len
    rw [strc_len, List.length_map] at hlen
    have h1b : H1 b26 = some (gcell (ofL t) (((flatS done).length + 6 + t.length : Nat) : Int) 0) := (Chain.le d1) _ _ t2
    have hle1 := s1.le
    have hGb' := hGb
    rw [← hset] at hle1 hGb'
    refine ⟨H1, hle1, ofL t, ⟨_, hGb', rfl⟩, _, ⟨_, h1b, rfl⟩, fun b65 hb65 => ?_⟩
    have hb65 : G b65 = none := by rw [← hset]; exact hb65
    show AppendQ (SH.upd (SH.setl (SH.upd H b26 (gcell ByteArray.empty 0 0)) (b26, 0) [.string (ofL t), .int .i64 (((flatS done).length + 6 + t.length : Nat) : Int), .int .i64 0]) b65 ⟨[.string (ofL t)], STR, false, 1⟩) STR 1 16 l 1 [.string (ofL t)] _
    rw [hset]
    obtain ⟨H3, s3, k3⟩ := On.swap .blk .sl (On.new (o := ⟨[.string (ofL t)], STR, false, 1⟩) hb65) s1
    refine s3.own.append (by omega) (by omega) rfl one_str fun l' H70 o70 hl' => ?_
    have o70 := o70.on
    rw [show strc (done.map ofL) ++ [Value.string (ofL t)] = strc ((done ++ [t]).map ofL) by simp [strc]] at o70
    refine ⟨k3.le.trans o70.le, ?_⟩
    have := ih (done ++ [t]) f l' H70 (by rw [hb]; simp) (by intro u hu; apply ht u; simpa using hu) (by simp at hf; omega) ⟨H3, o70, Chain.below (Chain.above d1 k3.le) t3⟩
    rw [flatS_append, List.length_append] at this
    simp only [flatS_cons, flatS_nil, List.append_nil, sealL_len] at this
    rw [show (flatS done).length + 6 + t.length = (flatS done).length + (t.length + 6) by omega]
    exact this
theorem nextL_no {B : List UInt8} {c : Int} (h : nextL B = .no c) : c ≠ 0 := by
  unfold nextL at h
  split at h
  · cases h; omega
  · split at h
    · cases h; omega
    · split at h
      · cases h; omega
      · split at h
        · cases h; omega
        · cases h
theorem first_app (s : ByteArray) : ((DM.new 1).append s).down = false ∧ ((DM.new 1).append s).left = -1 ∧ ((DM.new 1).append s).now.log = s ∧ (((DM.new 1).append s).waits = [] → ((DM.new 1).append s).lasts = ((DM.new 1).append s).now) := by
  by_cases hY : s.size = 0
  · have hYe : s = ByteArray.empty := bs_inj (by rw [List.eq_nil_of_length_eq_zero (l := bs s) (by rw [bs_len]; exact hY)]; rfl)
    have e : (DM.new 1).append s = DM.new 1 := by
      unfold DM.append DM.does DM.burn DM.lies DM.new
      simp [hY]
    rw [e, hYe]
    exact ⟨rfl, rfl, rfl, fun _ => rfl⟩
  · have e := append_free (m := DM.new 1) (s := s) rfl rfl hY
    rw [e]
    exact ⟨rfl, rfl, emp_app s, fun h => by simp at h⟩
theorem JournalOpens_wp {q : Bool} (hF : 10000 ≤ F) : ladinglaw15_JournalOpens.wp F s q H (fun b _ => b = true) := by
  refine awake15_spec (by omega) fun H1 hle => br_t rfl ⟨fun _ => ⟨H1, .refl _, rfl⟩, fun c600 => New_spec (n := 1) (by decide) fun bd H2 d2 hbd => ?_⟩
  have hs : s.size ≤ 600 := by omega
  obtain ⟨ts, rest, c, e1, e2, e3⟩ := flat_parts (bs s).length (bs s) (Nat.le_refl _)
  have gn := (good_new (n := 1) (by omega)).append (s := s)
  obtain ⟨a1, a2, a3, a4⟩ := first_app s
  have hts : ts.length ≤ s.size := by
    have : ∀ d : List (List UInt8), d.length ≤ (flatS d).length := by
      intro d
      induction d with
      | nil => simp
      | cons u d ihd => rw [flatS_cons, List.length_append, sealL_len, List.length_cons]; omega
    have h1 := this ts
    have h2 := congrArg List.length e1
    rw [bs_len, List.length_append] at h2
    omega
  have fin : ∀ (m : DM) (H3 : SH), m.good 1 5000 → m.down = false → m.left = -1 → m.now.log = s → (m.waits = [] → m.lasts = m.now) → On (DiskI bd m) H1 H3 → ladinglaw15_JournalOpens.j1 F (fun b _ => b = true) s (some (bd, 0)) H3 := fun m H3 g k1 k2 k3 k4 h3 => by
    have := Opens_loop (bd := bd) hF hs g k1 k2 k3 k4 e2 (nextL_no e2) (K := fun b _ => b = true) (fun _ => rfl) ts [] F Sl.nil H3 e1 (by simpa using e3) (by omega) ⟨H3, On.nil STR 1 H3, H1, h3, .refl _⟩
    exact this
  refine gAppend (good_new (n := 1) (by omega)) (by omega) (by omega) d2 fun H3 h3 => ?_
  rw [appendE_free rfl rfl]
  refine o_none ⟨fun _ => gSync gn h3 fun H4 h4 => ?_, fun _ => fin _ H3 (gn.more (by omega)) a1 a2 a3 a4 h3⟩
  rw [appendE_free a1 a2]
  have e := sync_free a1 a2
  refine o_none (fin _ H4 (gn.sync.more (by omega)) ?_ ?_ ?_ ?_ h4)
  · rw [e]; exact a1
  · rw [e]; exact a2
  · rw [e]; exact a3
  · rw [e]; exact fun _ => rfl
end
set_option maxRecDepth 100000 in
open Go.RowKit Go.ChangeShapes Go.WideShapes Go.ChangeAt in
theorem JournalOpens_walk {X : Prop} {H : Type} {enc : TypeId × Value → H} (W : World) (args : Array Value) (ds : List (DataW H)) (p : List MemPlace) (base : Nat)
    (hval : ∀ (j : Nat) t v, Try.f4.params[j]? = some t → args[j]? = some v → Value.okWide Try.prog W .any base t v) (hA : DataW.TrodAll enc Try.prog W 0 (fun _ => true) true Try.f4.params.toList args.toList ds p) (hfz : X) :
    (∃ d d2, ds = [d, d2]) ∧ Calls Try.prog 4 args W fun e w' => e = .returned (.bool true) ∧ RowKit.Below W.heap.size W w' := by
  rw [Try.params4] at hA hval
  obtain ⟨v0, vs0, d0, ds0, p0, q0, hargs, rfl, rfl, h0, r0⟩ := trodAll_cons hA
  obtain ⟨v1, vs1, d1, ds1, p1, q1, rfl, rfl, rfl, h1, r1⟩ := trodAll_cons r0
  obtain ⟨rfl, rfl, rfl⟩ := trodAll_nil r1
  obtain rfl : args = #[v0, v1] := by cases args; simp_all
  obtain ⟨s, rfl, rfl, rfl, hs⟩ := Go.ChangeMaps.open_string Try.underlying9 (hval 0 9 v0 rfl rfl) h0
  obtain ⟨q, rfl⟩ := arg_bool Try.underlying4 (hval 1 4 v1 rfl rfl)
  refine ⟨⟨_, _, rfl⟩, ?_⟩
  have h := ladinglaw15_JournalOpens.sound 10000 s q (SH.of W) _ (JournalOpens_wp (by omega)) W (SH.of_sat W)
  refine h.mono ?_
  rintro e w' ⟨v, H', rfl, st, q, rfl, rfl⟩
  exact ⟨rfl, st.below fun b o hb => SH.of_ro hb⟩
end Go.Proofs.Ytknhlipealekoaa.K
