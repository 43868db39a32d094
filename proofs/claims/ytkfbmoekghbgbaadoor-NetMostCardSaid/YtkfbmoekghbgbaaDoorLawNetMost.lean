/- The law NetMost: what it comes to. -/
import Derived.Test.YtkfbmoekghbgbaaDoorSpecNetD
import Derived.Test.YtkfbmoekghbgbaaDoorArgs2
import Derived.Test.YtkfbmoekghbgbaaDoorGladinglaw19NetMost
set_option linter.unusedVariables false
set_option linter.unusedSimpArgs false
namespace Go.Proofs.YtkfbmoekghbgbaaDoor.K
open Go
def pktM (i : Nat) : Fl := ⟨((i % 5 : Nat) : Int), (((i + 1) % 5 : Nat) : Int), ofL [UInt8.ofNat i, UInt8.ofNat (i / 256)], false⟩
def mostL (k : Nat) : List Fl := ((List.range k).map pktM).drop (k - 300)
theorem mostL_len (k : Nat) : (mostL k).length = min k 300 := by unfold mostL; simp; omega
theorem mostL_get {k j : Nat} (h : j < (mostL k).length) : (mostL k)[j] = pktM (k - 300 + j) := by
  simp [mostL]
theorem mostL_succ (k : Nat) : ((mostL k ++ [pktM k]).drop ((mostL k ++ [pktM k]).length - 300)) = mostL (k + 1) := by
  have e : (mostL k ++ [pktM k]).length - 300 = (k + 1 - 300) - (k - 300) := by rw [List.length_append, mostL_len, List.length_singleton]; omega
  have e2 : mostL k ++ [pktM k] = ((List.range (k + 1)).map pktM).drop (k - 300) := by
    unfold mostL
    rw [List.range_succ, List.map_append, List.drop_append_of_le_length (by simp)]; rfl
  rw [e, e2, List.drop_drop]
  exact congrArg (fun n => List.drop n ((List.range (k + 1)).map pktM)) (by omega)
theorem u8w {x : Nat} (h : x ≤ 1000000) : (Value.int .u8 (IntKind.u8.wrap (x : Int))) = .int .u8 ((UInt8.ofNat x).toNat : Int) := by
  congr 1
theorem two_bytes {x : Nat} (h : x ≤ 1000000) : [Value.int .u8 (IntKind.u8.wrap (x : Int)), .int .u8 (IntKind.u8.wrap (ishr .i64 (x : Int) 8))] = byteCells [UInt8.ofNat x, UInt8.ofNat (x / 256)] := by
  have e : ishr .i64 (x : Int) 8 = ((x / 256 : Nat) : Int) := by
    have := ishr_eq (x := (x : Int)) (k := 8) (by omega) (by omega)
    rw [show (((8 : Nat) : Int)) = 8 from rfl] at this
    rw [this]; omega
  rw [e, u8w h, u8w (by omega)]; rfl
theorem cellsF_constN (n : Nat) (v : Value) : (cellsF n fun _ => v) = List.replicate n v := by
  apply List.ext_getElem?
  intro i
  by_cases h : i < n
  · rw [cellsF_get h]; simp [h]
  · rw [List.getElem?_eq_none (by rw [cellsF_len]; omega), List.getElem?_eq_none (by simp; omega)]
theorem zeroN_eq (n : Nat) : (Builtin.zeroCells (Value.cells (.int .u8 0 : Value)) n).toList = byteCells (List.replicate n 0) := by
  rw [zeroCells_cells _ _ rfl, cellsF_constN]; simp [byteCells]
theorem zrow {H : SH} {b N : Nat} : (SH.upd H b ⟨(Builtin.zeroCells (Value.cells (.int .u8 0 : Value)) N).toList, 5, false, N * 1⟩).row (some (b, 0)) (byteCells (List.replicate N 0)) := by
  rw [← zeroN_eq]
  exact row0 (SH.upd_same _ _ _) fun j u hu => hu
theorem tm5 (x : Nat) : ((x : Nat) : Int).tmod 5 = ((x % 5 : Nat) : Int) := rfl
theorem ofE {n : Nat} : codeV (some (.no n)) = (n : Int) := rfl
theorem send_long {d : ByteArray} (h : d.size = 8001) : sendE 0 1 d = 6 := by
  unfold sendE
  rw [if_neg (by decide), if_pos (by omega)]
section
variable {F : Nat} {H H0 G : SH} {bn : Nat}
/-- Behind the packets. -/
theorem Most_end {s : ByteArray} {k : Nat} {l : Sl} {x : Int} {R2 : ByteArray → Option (Nat × Nat) → Int → Sl → Int → Int → SH → Prop} (hx : x ≤ 1000) (hx0 : 0 ≤ x) (hk : k ≤ 1000) (hg : H.has (0, 0) (rtv 31)) (h : On (NetI bn (mostL k)) H0 H) :
    ladinglaw19_NetMost.r2 F (fun b _ => b = true) R2 s (some (bn, 0)) (k : Int) l x x H := by
  refine br_f (by omega) (Take_none fun H1 h1 b60 hb60 => ⟨wrs_upd rfl (Nat.le_refl _), ?_⟩)
  rw [pkt_set]
  refine Look_none fun H2 h2 b68 hb68 => ⟨wrs_upd rfl (Nat.le_refl _), by omega, by omega, ?_⟩
  rw [pkt_set]
  have hN : (8001 : Int).toNat = 8001 := rfl
  generalize (8001 : Int).toNat = N at *
  intro b71 hb71
  have hle : SH.le H (SH.upd (SH.upd H2 b68 ⟨[.int .i64 0, .int .i64 0, .string ByteArray.empty], 34, false, 3⟩) b71 ⟨(Builtin.zeroCells (Value.cells (.int .u8 0 : Value)) N).toList, 5, false, N * 1⟩) :=
    h1.trans ((le_upd hb60).trans (h2.trans ((le_upd hb68).trans (le_upd hb71))))
  have hrow : (SH.upd (SH.upd H2 b68 ⟨[.int .i64 0, .int .i64 0, .string ByteArray.empty], 34, false, 3⟩) b71 ⟨(Builtin.zeroCells (Value.cells (.int .u8 0 : Value)) N).toList, 5, false, N * 1⟩).row (some (b71, 0)) (byteCells (List.replicate N 0)) := zrow
  refine ⟨List.replicate N 0, by rw [List.length_replicate], hrow, ?_⟩
  clear hrow
  generalize SH.upd (SH.upd H2 b68 ⟨[.int .i64 0, .int .i64 0, .string ByteArray.empty], 34, false, 3⟩) b71 ⟨(Builtin.zeroCells (Value.cells (.int .u8 0 : Value)) N).toList, 5, false, N * 1⟩ = G at *
  have g := On.above .net h hle
  have hgG := hg.le hle
  have e6 := send_long (d := ⟨(List.replicate N (0 : UInt8)).toArray⟩) (by show ((List.replicate N (0 : UInt8)).toArray).size = _; rw [List.size_toArray, List.length_replicate]; exact hN)
  generalize (⟨(List.replicate N (0 : UInt8)).toArray⟩ : ByteArray) = big at *
  have hlen := mostL_len k
  have emin : imin (k : Int) 300 = ((mostL k).length : Int) := by rw [hlen]; unfold imin; split <;> omega
  refine Send_spec (by omega) g (fun e0 => by rw [e6] at e0; cases e0) (fun _ => ?_)
  rw [e6]
  refine CodeN hgG (br_t rfl (Len19_spec g (br_t emin.symm (CodeN hgG (br_t rfl (CodeN hgG (br_t rfl (Send_none (CodeN hgG (br_t rfl (Drop_none fun G1 q1 => ?_)))))))))))
  refine CodeN (hgG.le q1) (br_t rfl (Twice_none (CodeN (hgG.le q1) (br_t rfl (Turn_none fun G2 q2 => CodeN (hgG.le (q1.trans q2)) (br_t rfl (Spoil_none (CodeN (hgG.le (q1.trans q2)) (br_t rfl (Len_none (All_none fun l' hl' => Clear_none fun G3 q3 => ⟨G3, .refl _, ?_⟩)))))))))))
  rw [hl']
  show ((w64 (w64 (0 + ((0 : Nat) : Int)) + 0)) == 0) = true
  decide
theorem NetMost_send {s : ByteArray} {k : Nat} (hF : 2000 ≤ F) (hk : k ≤ 400) (hg : H0.has (0, 0) (rtv 31)) :
    ∀ (m i f : Nat) (H : SH), k - i = m → i ≤ k → m < f → On (NetI bn (mostL i)) H0 H → ladinglaw19_NetMost.l1 F (fun b _ => b = true) f s (some (bn, 0)) (k : Int) (i : Int) H := by
  intro m
  induction m with
  | zero =>
    intro i f H hj hi hf h
    obtain ⟨f, rfl⟩ : ∃ i, f = i + 1 := ⟨f - 1, by omega⟩
    obtain rfl : i = k := by omega
    have hlen := mostL_len i
    have emin : imin (i : Int) 300 = ((mostL i).length : Int) := by rw [hlen]; unfold imin; split <;> omega
    refine br_f (by omega) (Len19_spec h (br_f (by rw [emin]; simp) (All19_spec (by omega) (by omega) h fun l H' o => ?_)))
    have hl := o.len
    rw [pkc_len] at hl
    have hl : l.len = (mostL i).length := by omega
    rw [hl]
    have loop : ∀ (m j f : Nat) (G : SH), (mostL i).length - j = m → j ≤ (mostL i).length → m < f → SH.le H' G → ladinglaw19_NetMost.l2 F (fun b _ => b = true) f s (some (bn, 0)) (i : Int) l ((mostL i).length : Int) (j : Int) G := by
      intro m
      induction m with
      | zero =>
        intro j f G hj hi hf hG
        obtain ⟨f, rfl⟩ : ∃ i, f = i + 1 := ⟨f - 1, by omega⟩
        have ej : j = (mostL i).length := by omega
        rw [ej]
        have hle := o.le.trans hG
        exact Most_end (by omega) (by omega) (by omega) ((hg.le h.le).le hle) (On.above .net h hle)
      | succ m ih =>
        intro j f G hj hi hf hG
        obtain ⟨f, rfl⟩ : ∃ i, f = i + 1 := ⟨f - 1, by omega⟩
        have hlt : j < (mostL i).length := by omega
        obtain ⟨p, hp, hrow⟩ := row_pkt (o.row.le hG) hlt
        have ex : w64 ((imax (w64 ((i : Int) - 300)) 0) + (j : Int)) = ((i - 300 + j : Nat) : Int) := by
          rw [w64_id (x := (i : Int) - 300) (by omega)]
          have : imax ((i : Int) - 300) 0 = ((i - 300 : Nat) : Int) := by unfold imax; split <;> omega
          rw [this, w64_id (by omega)]; omega
        have ex1 : w64 (((i - 300 + j : Nat) : Int) + 1) = ((i - 300 + j + 1 : Nat) : Int) := by rw [w64_id (by omega)]; omega
        have ef := mostL_get hlt
        refine br_t (by omega) ⟨p, hp, by omega, by omega, (mostL i)[j].f, (mostL i)[j].t, (mostL i)[j].d, hrow, fun b42 hb42 => ⟨wrs_upd rfl (Nat.le_refl _), ?_⟩⟩
        rw [pkt_set]
        refine ⟨(mostL i)[j].f, (mostL i)[j].t, (mostL i)[j].d, row0 (SH.upd_same _ _ _) (fun j u hu => hu), fun b49 hb49 => ?_⟩
        rw [ex, ex1, two_bytes (by omega)]
        refine ⟨[UInt8.ofNat (i - 300 + j), UInt8.ofNat ((i - 300 + j) / 256)], rfl, row0 (SH.upd_same _ _ _) (fun j u hu => hu), br_t ⟨?_, ?_, ?_⟩ ?_⟩
        · rw [ef, tm5]; rfl
        · rw [ef, tm5]; rfl
        · rw [ef]; rfl
        · rw [w64_id (by omega), show (j : Int) + 1 = ((j + 1 : Nat) : Int) by omega]
          exact ih (j + 1) f _ (by omega) (by omega) (by omega) (hG.trans ((le_upd hb42).trans (le_upd hb49)))
    exact loop (mostL i).length 0 F H' (by omega) (by omega) (by omega) (.refl _)
  | succ m ih =>
    intro i f H hj hi hf h
    obtain ⟨f, rfl⟩ : ∃ i, f = i + 1 := ⟨f - 1, by omega⟩
    have hlen := mostL_len i
    refine br_t (by omega) fun b14 hb14 => ?_
    rw [two_bytes (by omega), w64_id (x := (i : Int) + 1) (by omega), show (i : Int) + 1 = ((i + 1 : Nat) : Int) by omega, tm5, tm5]
    obtain ⟨H2, g, _, gle⟩ := On.temp .net h hb14 ⟨byteCells [UInt8.ofNat i, UInt8.ofNat (i / 256)], 5, false, 2⟩
    refine ⟨[UInt8.ofNat i, UInt8.ofNat (i / 256)], rfl, row0 (SH.upd_same _ _ _) (fun j u hu => hu), ?_⟩
    have e0 : sendE (pktM i).f (pktM i).t (pktM i).d = 0 := by
      unfold sendE pktM
      rw [if_neg (by simp only []; omega), if_neg (by simp only []; show ¬ (2 : Nat) > 8000; omega)]
    refine Send_spec (f := (pktM i).f) (t := (pktM i).t) (d := (pktM i).d) (by omega) g (fun _ H' h' => o_none ?_) (fun hn => absurd e0 hn)
    have h2 : On (NetI bn ((mostL i ++ [pktM i]).drop ((mostL i ++ [pktM i]).length - 300))) H2 H' := h'
    rw [mostL_succ] at h2
    exact ih (i + 1) f H' (by omega) (by omega) (by omega) (h2.below gle)
theorem NetMost_wp {x : Int} {s : ByteArray} (hF : 2000 ≤ F) (hx : 0 ≤ x ∧ x ≤ 65535) (hg : H.has (0, 0) (rtv 31)) : ladinglaw19_NetMost.wp F x s H (fun b _ => b = true) := by
  refine awake19_spec fun H3 h3 => br_t rfl ?_
  by_cases hm : (s.size : Int) > 100
  · exact br_t hm ⟨H3, .refl _, rfl⟩
  refine br_f hm (New19_spec fun bn H8 hbn h8 => ?_)
  obtain ⟨n, rfl⟩ := Int.eq_ofNat_of_zero_le hx.1
  have e : (w64 (n : Int)).tmod 400 = ((n % 400 : Nat) : Int) := by rw [w64_id (by omega)]; rfl
  rw [e]
  exact NetMost_send hF (by have := Nat.mod_lt n (by omega : 0 < 400); omega) (hg.le h3) (n % 400) 0 F H8 (by omega) (by omega) (by have := Nat.mod_lt n (by omega : 0 < 400); omega) h8
end
set_option maxRecDepth 100000 in
open Go.RowKit Go.ChangeShapes Go.WideShapes Go.ChangeAt in
theorem NetMost_walk {X : Prop} {H : Type} {enc : TypeId × Value → H} (W : World) (args : Array Value) (ds : List (DataW H)) (p : List MemPlace) (base : Nat)
    (hval : ∀ (j : Nat) t v, Tryd.f4.params[j]? = some t → args[j]? = some v → Value.okWide Tryd.prog W .any base t v) (hA : DataW.TrodAll enc Tryd.prog W 0 (fun _ => true) true Tryd.f4.params.toList args.toList ds p) (hfz : X)
    (hg : W.cell? ⟨0, 0, none⟩ = some (rtv 31)) :
    (∃ d d2, ds = [d, d2]) ∧ Calls Tryd.prog 4 args W fun e w' => e = .returned (.bool true) ∧ RowKit.Below W.heap.size W w' := by
  rw [Tryd.params4] at hA hval
  obtain ⟨v0, vs0, d0, ds0, p0, q0, hargs, rfl, rfl, h0, r0⟩ := trodAll_cons hA
  obtain ⟨v1, vs1, d1, ds1, p1, q1, rfl, rfl, rfl, h1, r1⟩ := trodAll_cons r0
  obtain ⟨rfl, rfl, rfl⟩ := trodAll_nil r1
  obtain rfl : args = #[v0, v1] := by cases args; simp_all
  obtain ⟨x, rfl, rfl, rfl, hx⟩ := open_int Tryd.underlying48 (hval 0 48 v0 rfl rfl) h0
  obtain ⟨s, rfl, rfl, rfl, hs⟩ := Go.ChangeMaps.open_string Tryd.underlying9 (hval 1 9 v1 rfl rfl) h1
  have hxr : 0 ≤ x ∧ x ≤ 65535 := lit_range hx
  refine ⟨⟨_, _, rfl⟩, ?_⟩
  have h := ladinglaw19_NetMost.sound 10000 x s (SH.of W) _ (NetMost_wp (by omega) hxr (SH.of_cell (p := (0, 0)) hg)) W (SH.of_sat W)
  refine h.mono ?_
  rintro e w' ⟨v, H', rfl, st, q, rfl, rfl⟩
  exact ⟨rfl, st.below fun b o hb => SH.of_ro hb⟩
end Go.Proofs.YtkfbmoekghbgbaaDoor.K
