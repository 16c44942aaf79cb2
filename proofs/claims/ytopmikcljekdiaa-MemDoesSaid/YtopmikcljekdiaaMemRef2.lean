/- The reference's memory: Strike, access, Load, Store, Next, New. -/
import Derived.Test.YtopmikcljekdiaaMemRef
namespace Go.Proofs.Ytopmikcljekdiaa.Ag
open Go.RowKit Go.Proofs.YtopmikcljekdiaaW.PrintWords Go.Proofs.YtopmikcljekdiaaW.PrintLast Go.Proofs.YtopmikcljekdiaaW.PrintMore Go.Proofs.Ytopmikcljekdiaa.PA Go.Proofs.Ytopmikcljekdiaa.SL
set_option linter.unusedVariables false
set_option maxRecDepth 100000
set_option maxHeartbeats 16000000
theorem check56_ok {A : Option Addr} {n c : Nat} {w : World} (hn : n ≤ 1024) : Calls Try.prog 56 #[.slice A n c] w fun e w' => e = .returned (.int .i64 0) ∧ w' = w := by
  have h1 : decide ((1024 : Int) < (n : Int)) = false := decide_eq_false (by omega)
  go_enter Try.func56, Try.ntmps56
  go_wp2
  go_ret
  exact ⟨rfl, rfl⟩
theorem nothing67_calls {f0 f1 f2 f3 f4 f5 : Int} {n : Nat} {r : Bool} {w : World} (hr : (r = true ∧ (f5 = 0 ∨ f4 < 0 ∨ (n : Int) ≤ f4)) ∨ (r = false ∧ ¬ f5 = 0 ∧ ¬ f4 < 0 ∧ ¬ (n : Int) ≤ f4)) :
    Calls Try.prog 67 #[.agg #[.int .i64 f0, .int .i64 f1, .int .i64 f2, .int .i64 f3, .int .i64 f4, .int .u64 f5], .int .i64 n] w fun e w' => e = .returned (.bool r) ∧ Below w.heap.size w w' := by
  have hcs : (r = true ∧ (f5 == 0) = true) ∨ (r = true ∧ (f5 == 0) = false ∧ decide (f4 < 0) = true) ∨ (r = true ∧ (f5 == 0) = false ∧ decide (f4 < 0) = false ∧ decide ((n : Int) ≤ f4) = true) ∨ (r = false ∧ (f5 == 0) = false ∧ decide (f4 < 0) = false ∧ decide ((n : Int) ≤ f4) = false) := by
    simp only [decide_eq_true_eq, decide_eq_false_iff_not, beq_iff_eq, beq_eq_false_iff_ne, ne_eq]
    rcases hr with ⟨h1, h2⟩ | ⟨h1, h2⟩
    · by_cases a : f5 = 0
      · exact .inl ⟨h1, a⟩
      · by_cases b : f4 < 0
        · exact .inr (.inl ⟨h1, a, b⟩)
        · exact .inr (.inr (.inl ⟨h1, a, b, by omega⟩))
    · exact .inr (.inr (.inr ⟨h1, h2⟩))
  clear hr
  rcases hcs with ⟨rfl, d1⟩ | ⟨rfl, d1, d2⟩ | ⟨rfl, d1, d2, d3⟩ | ⟨rfl, d1, d2, d3⟩
  all_goals
    go_enter Try.func67, Try.ntmps67
    go_wp2
    go_ret
    exact ⟨rfl, below_alloc (Below.refl _ _) _⟩
theorem strike65_calls {A : Option Addr} {ad : Option Addr} {n c m d : Nat} {xs : List S31} {ws : List Int} {w : World} (hr : Kd.C k31 w A n xs) (hx : xs.length = n) (hn : n ≤ 1024) (hw : ReadsInt w .u64 ad m ws) (hm : m ≤ 16384) (h64 : ∀ x ∈ ws, W64 x) :
    Calls Try.prog 65 #[.slice A n c, .slice ad m d] w fun e w' => ∃ A' c', e = .returned (.tuple #[.slice A' m c', .int .i64 0]) ∧ St w w' [WoA (.slice A' m c') (stkL ws xs)] := by
  have d1 : decide ((16384 : Int) < (m : Int)) = false := decide_eq_false (by omega)
  have d1' : decide (16384 < m) = false := decide_eq_false (by omega)
  have S0 := Aside0.mk (St.nil w)
  have HR := Aside0.mk hr
  have HX := Aside0.mk hx
  have HN := Aside0.mk hn
  have HL : Aside0 (∀ k, (stkL ws (xs.take k)).length = m) := ⟨fun k => by rw [stkL_len]; exact hw.1⟩
  have H64 : Aside0 (∀ k, ∀ x ∈ stkL ws (xs.take k), W64 x) := ⟨fun k => stkL_W64 _ h64⟩
  have HM1 : Aside0 (m ≤ 100000) := ⟨by omega⟩
  have hnb : n ≤ 1024 := hn
  have HO : Aside0 (w.ownsRow 0 29 1 (.slice none 0 0) ([] : List Int).length (nums .u64 [])) := ⟨own_nil _ _ _ _⟩
  have HB : Aside0 ((([] : List Int).length + m) * 8 ≤ 140737488355328) := ⟨by simp; omega⟩
  have HWR := Aside0.mk hw
  have HWL : Aside0 (ws.length = m) := ⟨hw.1⟩
  clear hr hx hn hw h64
  go_enter Try.func65, Try.ntmps65
  go_wp2_with (first
    | (go_at_call 56; refine (check56_ok HN.out).mono ?_; rintro e w2 ⟨rfl, hw⟩; obtain rfl := hw.symm)
    | (at_builtin; refine print_append_row (w0 := w) 0 rfl (.const (.slice none 0 0)) (.tmp 18) 62 29 .u64 8 rfl Try.underlying62 info29 (by decide) _ [] ws ad m d rfl rfl HO.out HWR.out (Below.refl _ _) (Nat.zero_le _) HB.out ?_; intro v1 w3 hown hb1 hg1 hat1; obtain ⟨A', c', rfl, h⟩ := app_words S0.out hown hg1 hat1; rw [HWL.out] at h ⊢; have S1 := Aside0.mk h; clear h hown hb1 hg1 hat1))
  go_loopw [22] (fun v22 wr => ∃ (k : Nat), v22 = .int .i64 k ∧ Aside0 (k ≤ n) ∧ Aside0 (St w wr [WoA (.slice A' m c') (stkL ws (xs.take k))])) (fun v22 _ => n - (intOf v22).toNat)
  case atStart => exact ⟨0, rfl, ⟨Nat.zero_le _⟩, S1⟩
  case round =>
    obtain ⟨k, rfl, HK, HS⟩ := hrel
    clear S1
    by_cases hkk : k < n
    · have hkx : k < xs.length := by have := HX.out; omega
      obtain ⟨ae, ea, x0, x1, x2, x3, x4, x5⟩ := at_T31 (below_C HR.out HS.out.below) (k : Int) (by omega) (by omega)
      have hrd : rd_T31 xs (k : Int) = xs[k] := by simp [rd_T31, hkx]
      rw [hrd] at x0 x1 x2 x3 x4 x5
      rw [Int.toNat_natCast] at x0 x1 x2 x3 x4 x5
      have HST := Aside0.mk (stkL_take ws xs k xs[k] (List.getElem?_eq_getElem hkx))
      have hwl := HL.out k
      have hw64 := H64.out k
      generalize xs[k] = x at *
      obtain ⟨ws', hws⟩ : ∃ l, stkL ws (xs.take k) = l := ⟨_, rfl⟩
      rw [hws] at HST HS hwl hw64
      obtain ⟨f0, f1, f2, f3, f4, f5⟩ := x
      simp only at x0 x1 x2 x3 x4 x5
      subst ea
      obtain ⟨B, hB⟩ : ∃ B : Obj, B = .cells #[.int .i64 f0, .int .i64 f1, .int .i64 f2, .int .i64 f3, .int .i64 f4, .int .u64 f5] 31 := ⟨_, rfl⟩
      have S2 : Aside0 (St w (wr.alloc B) [BlkA wr.heap.size B, WoA (.slice A' m c') ws']) := ⟨HS.out.box B⟩
      have HB := Aside0.mk hB
      have HWL := Aside0.mk hwl
      have HW64 := Aside0.mk hw64
      clear hrd hws hkx hwl hw64
      by_cases hin : ¬ f5 = 0 ∧ ¬ f4 < 0 ∧ ¬ (m : Int) ≤ f4
      · obtain ⟨i, rfl⟩ : ∃ i : Nat, f4 = i := ⟨f4.toNat, by omega⟩
        have him : i < m := by omega
        have HNO := Aside0.mk (fun W => nothing67_calls (f0 := f0) (f1 := f1) (f2 := f2) (f3 := f3) (w := W) (.inr ⟨rfl, hin⟩))
        have hin2 : Aside0 (i < ws'.length) := ⟨by rw [HWL.out]; omega⟩
        obtain ⟨r, hA'⟩ : ∃ r, A' = some ⟨r, 0, none⟩ := by
          obtain ⟨F, hA, _, _⟩ := HS.out.one
          obtain ⟨q, e, _⟩ := WoR.at hA.2.1 HWL.out i him
          exact ⟨q, e⟩
        subst hA'
        clear hin HS
        subst hB
        go_wp2_with (go_at_call 67; refine (HNO.out _).mono ?_; rintro e w4 ⟨rfl, hb4⟩; have S3 := Aside0.mk (S2.out.then hb4); clear hb4; have q := S3.out.blk; have y4 : w4.cell? ⟨wr.heap.size, 4, none⟩ = some (.int .i64 i) := cell_of_block q 4; have y5 : w4.cell? ⟨wr.heap.size, 5, none⟩ = some (.int .u64 f5) := cell_of_block q 5; clear q; have hrow := S3.out.drop.wat HWL.out i him; have z1 := hrow.1; have z2 := hrow.2.1; have Z3 := Aside0.mk hrow.2.2; clear hrow; obtain ⟨u, hu⟩ : ∃ u, ws'.getD i 0 = u := ⟨_, rfl⟩; have HU := Aside0.mk hu; rw [hu] at z1; clear hu)
        go_region
        all_goals
          go_wp2
          go_roundw
          case rel =>
            refine ⟨k + 1, by go_num, ⟨hkk⟩, ⟨?_⟩⟩
            rw [HST.out, stk_in hin2.out, HU.out]
            first
              | exact Z3.out _
              | (rw [setCell_drewN]; exact St.then (Z3.out _) (pw_below_drewN (Below.refl _ _) _))
              | exact St.then (Z3.out _) (below_drew (Below.refl _ _))
          case measure => simp [intOf]; omega
      · have HNO := Aside0.mk (fun W => nothing67_calls (f0 := f0) (f1 := f1) (f2 := f2) (f3 := f3) (f4 := f4) (f5 := f5) (n := m) (w := W) (.inl ⟨rfl, by omega⟩))
        have HID : Aside0 (stk ws' ⟨f0, f1, f2, f3, f4, f5⟩ = ws') := ⟨stk_idle HW64.out (by rw [HWL.out]; simp only; omega)⟩
        clear hin HS
        subst hB
        go_wp2_with (go_at_call 67; refine (HNO.out _).mono ?_; rintro e w4 ⟨rfl, hb4⟩; have S3 := Aside0.mk (S2.out.then hb4); clear hb4)
        go_roundw
        case rel => exact ⟨k + 1, by go_num, ⟨hkk⟩, ⟨by rw [HST.out, HID.out]; exact S3.out.drop⟩⟩
        case measure => simp [intOf]; omega
    · have hkn : k = n := by have := HK.out; omega
      have hfull : Aside0 (xs.take k = xs) := ⟨List.take_of_length_le (by have := HX.out; omega)⟩
      go_wp2
      go_ret2
      refine ⟨A', c', rfl, ?_⟩
      have h := HS.out
      rw [hfull.out] at h
      exact h
/-- In: whether so many places are there. -/
theorem in_calls {w0 w : World} {L : List Asn} {b : Nat} {m : MS} {a : Int} {r : Bool} (h : St w0 w (RmA b m :: L)) (hl : m.ws.length ≤ 100000) (h1 : 1 ≤ m.ws.length) (hr : inM m a = r) :
    Calls Try.prog 64 #[.pointer (some ⟨b, 0, none⟩), .int .i64 a, .int .i64 1] w fun e w' => e = .returned (.bool r) ∧ w' = w := by
  obtain ⟨A, c, B, d, c0, c1, c2, c3, _⟩ := h.rcells
  obtain ⟨n, hn⟩ : ∃ n, m.ws.length = n := ⟨_, rfl⟩
  have hcs : (r = true ∧ decide (0 ≤ a) = true ∧ decide (a ≤ (n : Int) - 1) = true) ∨ (r = false ∧ decide (0 ≤ a) = false) ∨ (r = false ∧ decide (0 ≤ a) = true ∧ decide (a ≤ (n : Int) - 1) = false) := by
    have h0 := @inM_iff m a
    rw [hr, hn] at h0
    simp only [decide_eq_true_eq, decide_eq_false_iff_not]
    cases r
    · have : ¬ (0 ≤ a ∧ a < (n : Int)) := fun hh => by have h9 := h0.2 hh; cases h9
      by_cases ha : 0 ≤ a
      · exact .inr (.inr ⟨rfl, ha, fun hh => this ⟨ha, by omega⟩⟩)
      · exact .inr (.inl ⟨rfl, ha⟩)
    · have := h0.1 rfl
      exact .inl ⟨rfl, this.1, by omega⟩
  rw [hn] at c0 hl h1
  have e1 : decide ((1 : Int) ≤ (n : Int)) = true := decide_eq_true (by omega)
  have e2 : decide (1 ≤ n) = true := decide_eq_true (by omega)
  clear h hr hn c1 c2 c3
  rcases hcs with ⟨rfl, d1, d2⟩ | ⟨rfl, d1⟩ | ⟨rfl, d1, d2⟩
  all_goals
    go_enter Try.func64, Try.ntmps64
    go_wp2
    go_ret
    exact ⟨rfl, rfl⟩
theorem filter_take (p : S31 → Bool) (xs : List S31) (k : Nat) (x : S31) (h : xs[k]? = some x) : (xs.take (k + 1)).filter p = (xs.take k).filter p ++ (if p x = true then [x] else []) := by
  rw [List.take_add_one, h, List.filter_append]
  congr 1
  simp only [Option.toList_some, List.filter_cons, List.filter_nil]
theorem nil_EvA {w0 w : World} {L : List Asn} (h : St w0 w L) : St w0 w (EvA (.slice none 0 0) [] :: L) :=
  h.add (F' := NoF) (Chg.refl w NoF) ⟨fun k hk => hk.elim, own_nil _ _ _ _, fun k hk => by simp [own1, Value.ownBlock] at hk⟩
/-- The same, its two slices told. -/
def RmV (b : Nat) (v u : Value) (m : MS) : Asn := ⟨fun w F => (∀ k, F k → k < w.heap.size) ∧ F b ∧ w.heap[b]? = some (.cells #[v, u, .int .i64 m.tk, .int .i64 m.ah] 91 (0, 0)) ∧ WoR w v m.ws ∧ EvR w u m.evs ∧ (∀ k, own1 v k → F k) ∧ (∀ k, own1 u k → F k), fun h k hk => h.1 k hk, fun h hm => by
  obtain ⟨h1, h2, h3, h4, h5, h6, h7⟩ := h
  exact ⟨lt_keep h1 hm, h2, (hm _ h2).trans h3, own_move h4 (fun k hk => hm k (h6 k hk)), own_move h5 (fun k hk => hm k (h7 k hk)), h6, h7⟩⟩
theorem St.rv_open {w0 w : World} {L : List Asn} {b : Nat} {m : MS} (h : St w0 w (RmA b m :: L)) : ∃ A c B d, m.ws.length ≤ c ∧ St w0 w (RmV b (.slice A m.ws.length c) (.slice B m.evs.length d) m :: L) := by
  obtain ⟨hb, hh, F, ⟨h1, h2, v, u, h3, h4, h5, h6, h7⟩, hF, hL⟩ := h
  obtain ⟨A, c, rfl, hc, _⟩ := h4.reads
  obtain ⟨B, d, rfl⟩ := own_slice h5
  exact ⟨A, c, B, d, hc, hb, hh, F, ⟨h1, h2, h3, h4, h5, h6, h7⟩, hF, hL⟩
theorem St.rv_close {w0 w : World} {L : List Asn} {b : Nat} {v u : Value} {m : MS} (h : St w0 w (RmV b v u m :: L)) : St w0 w (RmA b m :: L) := by
  obtain ⟨hb, hh, F, ⟨h1, h2, h3, h4, h5, h6, h7⟩, hF, hL⟩ := h
  exact ⟨hb, hh, F, ⟨h1, h2, v, u, h3, h4, h5, h6, h7⟩, hF, hL⟩
theorem St.rv {w0 w : World} {L : List Asn} {b n k : Nat} {A B : Option Addr} {c d : Nat} {m : MS} (h : St w0 w (RmV b (.slice A n c) (.slice B k d) m :: L)) (hn : m.ws.length = n) (hk : m.evs.length = k) :
    w.cell? ⟨b, 0, none⟩ = some (.slice A n c) ∧ w.cell? ⟨b, 1, none⟩ = some (.slice B k d) ∧ w.cell? ⟨b, 2, none⟩ = some (.int .i64 m.tk) ∧ (∀ i, w.frozen? ⟨b, i, none⟩ = false) ∧ ReadsInt w .u64 A n m.ws ∧ Kd.C k31 w B k m.evs := by
  obtain ⟨F, ⟨h1, h2, h3, h4, h5, h6, h7⟩, _, _⟩ := h.one
  obtain ⟨A', c', e, hc, hr⟩ := h4.reads
  injection e with e1 e2 e3
  subst e1
  obtain ⟨B', d', e, hd, hq⟩ := h5.form
  injection e with e1 e2 e3
  subst e1
  rw [hn] at hr
  rw [hk] at hq
  exact ⟨cell_of_block h3 0, cell_of_block h3 1, cell_of_block h3 2, fun i => by simp [World.frozen?, h3], hr, hq⟩
structure RS (w0 wr : World) (b : Nat) (m : MS) (v u : Value) (t : Int) (L : List Asn) (k : Nat) (V U : Value) (p q : List S31) : Prop where
  now : p = (m.evs.take k).filter (upto t)
  left : q = (m.evs.take k).filter (past t)
  st : St w0 wr (EvA V p :: EvA U q :: RmV b v u m :: L)
/-- Strike: all strike whose Tick is at most t. -/
theorem rstrike_calls {w0 w : World} {L : List Asn} {b : Nat} {m : MS} {t : Int} (h : St w0 w (RmA b m :: L)) (he : m.evs.length ≤ 1024) (hl : m.ws.length ≤ 16384) (h64 : ∀ x ∈ m.ws, W64 x) :
    Calls Try.prog 58 #[.pointer (some ⟨b, 0, none⟩), .int .i64 t] w fun e w' => e = .returned (.tuple #[]) ∧ St w0 w' (RmA b { m with ws := stkL m.ws (m.evs.filter (upto t)), evs := m.evs.filter (past t) } :: L) := by
  obtain ⟨A, c, B, d, hc, h0⟩ := h.rv_open
  obtain ⟨n, hn⟩ : ∃ n, m.evs.length = n := ⟨_, rfl⟩
  obtain ⟨nw, hnw⟩ : ∃ nw, m.ws.length = nw := ⟨_, rfl⟩
  rw [hn, hnw] at h0
  obtain ⟨c0, c1, c2, cf, hr, hk⟩ := h0.rv hnw hn
  have S0 := Aside0.mk (nil_EvA (nil_EvA h0))
  have HN := Aside0.mk hn
  have HNW := Aside0.mk hnw
  have H64 := Aside0.mk h64
  have HL : Aside0 (nw ≤ 16384) := ⟨by omega⟩
  rw [hn] at he
  clear h h0 hr hk hc c0 c2 cf hn h64 hl hnw
  go_enter Try.func58, Try.ntmps58
  go_wp2
  clear c1
  go_loopw [4, 5, 13] (fun v4 v5 v13 wr => ∃ (k : Nat) (A4 A5 : Option Addr) (c4 c5 : Nat) (p q : List S31), v4 = .slice A4 p.length c4 ∧ v5 = .slice A5 q.length c5 ∧ v13 = .int .i64 k ∧ Aside0 (k ≤ n) ∧ Aside0 (RS w0 wr b m (.slice A nw c) (.slice B n d) t L k (.slice A4 p.length c4) (.slice A5 q.length c5) p q)) (fun _ _ v13 _ => n - (intOf v13).toNat)
  case atStart => exact ⟨0, none, none, 0, 0, [], [], rfl, rfl, rfl, ⟨Nat.zero_le _⟩, ⟨⟨rfl, rfl, S0.out⟩⟩⟩
  case round =>
    obtain ⟨k, A4, A5, c4, c5, p, q, rfl, rfl, rfl, HK, HS⟩ := hrel
    obtain ⟨hp, hq, st⟩ := HS.out
    clear S0
    by_cases hkk : k < n
    · have hkx : k < m.evs.length := by have := HN.out; omega
      obtain ⟨_, _, _, _, _, hke⟩ := st.sw2.rv HNW.out HN.out
      obtain ⟨ad, ea, x0, x1, x2, x3, x4, x5⟩ := at_T31 hke (k : Int) (by omega) (by omega)
      have hrd : rd_T31 m.evs (k : Int) = m.evs[k] := by simp [rd_T31, hkx]
      rw [hrd] at x0 x1 x2 x3 x4 x5
      rw [Int.toNat_natCast] at x0 x1 x2 x3 x4 x5
      have hf1 := filter_take (upto t) m.evs k m.evs[k] (List.getElem?_eq_getElem hkx)
      have hf2 := filter_take (past t) m.evs k m.evs[k] (List.getElem?_eq_getElem hkx)
      rw [← hp] at hf1
      rw [← hq] at hf2
      have hpl : p.length ≤ n := by rw [hp]; have := List.length_filter_le (upto t) (m.evs.take k); have h2 := List.length_take_le k m.evs; omega
      have hql : q.length ≤ n := by rw [hq]; have := List.length_filter_le (past t) (m.evs.take k); have h2 := List.length_take_le k m.evs; omega
      generalize m.evs[k] = x at *
      obtain ⟨f0, f1, f2, f3, f4, f5⟩ := x
      simp only at x0 x1 x2 x3 x4 x5
      subst ea
      obtain ⟨B1, hB1⟩ : ∃ B1 : Obj, B1 = .cells #[.int .i64 f0, .int .i64 f1, .int .i64 f2, .int .i64 f3, .int .i64 f4, .int .u64 f5] 31 := ⟨_, rfl⟩
      have hsz : (wr.alloc B1).heap.size = wr.heap.size + 1 := by simp
      have S3 : Aside0 (St w0 ((wr.alloc B1).alloc B1) (EvA (.slice A4 p.length c4) p :: EvA (.slice A5 q.length c5) q :: RmV b (.slice A nw c) (.slice (some ad) n d) m :: L)) := ⟨(st.then (below_alloc (Below.refl _ _) B1)).then (below_alloc (Below.refl _ _) B1)⟩
      have HR1 : Aside0 (Kd.C k31 ((wr.alloc B1).alloc B1) (some ⟨wr.heap.size + 1, 0, none⟩) 1 [⟨f0, f1, f2, f3, f4, f5⟩]) := ⟨by
        rw [← hsz]
        exact (EvR.of_block (os := [⟨f0, f1, f2, f3, f4, f5⟩]) (by rw [heap_alloc_new, hB1]; rfl) (by simp)).C rfl⟩
      have KK := Aside0.mk hkk
      obtain ⟨lp, hlp⟩ : ∃ lp, p.length = lp := ⟨_, rfl⟩
      obtain ⟨lq, hlq⟩ : ∃ lq, q.length = lq := ⟨_, rfl⟩
      have HPB : Aside0 (p.length + 1 ≤ 100000) := ⟨by omega⟩
      have HQB : Aside0 (q.length + 1 ≤ 100000) := ⟨by omega⟩
      have HPL : Aside0 ((p ++ [(⟨f0, f1, f2, f3, f4, f5⟩ : S31)]).length = lp + 1) := ⟨by simp [hlp]⟩
      have HQL : Aside0 ((q ++ [(⟨f0, f1, f2, f3, f4, f5⟩ : S31)]).length = lq + 1) := ⟨by simp [hlq]⟩
      rw [hlp, hlq] at S3
      have HLP := Aside0.mk hlp
      have HLQ := Aside0.mk hlq
      rw [hlp, hlq]
      clear hrd hkx hke hp hq st HS hsz hlp hlq hpl hql
      by_cases hft : f3 ≤ t
      · have d1 : decide (f3 ≤ t) = true := decide_eq_true hft
        rw [if_pos (show upto t ⟨f0, f1, f2, f3, f4, f5⟩ = true from d1)] at hf1
        rw [if_neg (show ¬ past t ⟨f0, f1, f2, f3, f4, f5⟩ = true by unfold past; simp only; rw [d1]; simp), List.append_nil] at hf2
        have HF1 := Aside0.mk hf1
        have HF2 := Aside0.mk hf2
        clear hft hf1 hf2
        subst hB1
        go_wp2_with (at_builtin; refine St.append (ds := p ++ [⟨f0, f1, f2, f3, f4, f5⟩]) S3.out HR1.out rfl (.tmp 21) (.tmp 23) rfl rfl rfl HPB.out rfl ?_; intro A2 c2 w2 hc2 h; rw [HPL.out] at h ⊢; have S4 := Aside0.mk h; clear h hc2)
        go_roundw
        case rel => exact ⟨k + 1, A2, A5, c2, c5, p ++ [⟨f0, f1, f2, f3, f4, f5⟩], q, by rw [HPL.out], by rw [HLQ.out], by go_num, KK, ⟨⟨HF1.out.symm, HF2.out.symm, by rw [HPL.out, HLQ.out]; exact S4.out⟩⟩⟩
        case measure => simp [intOf]; omega
      · have d1 : decide (f3 ≤ t) = false := decide_eq_false hft
        rw [if_neg (show ¬ upto t ⟨f0, f1, f2, f3, f4, f5⟩ = true by unfold upto; simp only; rw [d1]; simp), List.append_nil] at hf1
        rw [if_pos (show past t ⟨f0, f1, f2, f3, f4, f5⟩ = true by unfold past; simp only; rw [d1]; rfl)] at hf2
        have HF1 := Aside0.mk hf1
        have HF2 := Aside0.mk hf2
        have S3b := Aside0.mk S3.out.sw1
        clear hft hf1 hf2
        subst hB1
        go_wp2_with (at_builtin; refine St.append (ds := q ++ [⟨f0, f1, f2, f3, f4, f5⟩]) S3b.out HR1.out rfl (.tmp 25) (.tmp 27) rfl rfl rfl HQB.out rfl ?_; intro A2 c2 w2 hc2 h; rw [HQL.out] at h ⊢; have S4 := Aside0.mk h.sw1; clear h hc2)
        go_roundw
        case rel => exact ⟨k + 1, A4, A2, c4, c2, p, q ++ [⟨f0, f1, f2, f3, f4, f5⟩], by rw [HLP.out], by rw [HQL.out], by go_num, KK, ⟨⟨HF1.out.symm, HF2.out.symm, by rw [HQL.out, HLP.out]; exact S4.out⟩⟩⟩
        case measure => simp [intOf]; omega
    · have hkn : k = n := by have := HK.out; omega
      have hfull : m.evs.take k = m.evs := List.take_of_length_le (by have := HN.out; omega)
      rw [hfull] at hp hq
      obtain ⟨c0, c1, c2, cf, hr, _⟩ := st.sw2.rv HNW.out HN.out
      obtain ⟨lp, hlp⟩ : ∃ lp, p.length = lp := ⟨_, rfl⟩
      have hpl : lp ≤ 1024 := by rw [← hlp, hp]; have := List.length_filter_le (upto t) m.evs; have := HN.out; omega
      have hrd := st.read rfl
      rw [hlp] at hrd st
      have HSTR := Aside0.mk (strike65_calls (c := c4) (d := c) hrd hlp hpl hr HL.out H64.out)
      have ST := Aside0.mk st
      have HP := Aside0.mk hp
      have HQ := Aside0.mk hq
      obtain ⟨lq, hlq⟩ : ∃ lq, q.length = lq := ⟨_, rfl⟩
      rw [hlq] at ST
      rw [hlp, hlq]
      clear hfull hp hq hr hlp hpl hrd st HS hkn c1 c2 cf hlq
      go_wp2_with (go_at_call 65; refine HSTR.out.mono ?_; rintro e w5 ⟨A', c', rfl, h⟩; have s5 := (ST.out.frame h).sw3.sw2.drop; obtain ⟨_, _, _, cf5, _, _⟩ := s5.rv HNW.out HN.out; have z0 := cf5 0; have S6 := Aside0.mk (s5.rv_close.rput_words); have z1 : (w5.setCell ⟨b, 0, none⟩ (.slice A' nw c')).frozen? ⟨b, 1, none⟩ = false := (by obtain ⟨_, _, _, _, _, _, _, _, q, _⟩ := S6.out.rcells; exact q 1); clear s5 cf5 h)
      go_end0
      have h7 := S6.out.rput_evs
      rw [HP.out, HQ.out] at h7
      exact ⟨rfl, h7⟩
theorem racc_calls {w0 w : World} {L : List Asn} {b k : Nat} {m : MS} {a : Int} (h : St w0 w (RmA b m :: L)) (hk : OkM m k) (hk2 : k ≤ 100000) (h1 : 1 ≤ m.ws.length) (h64 : ∀ x ∈ m.ws, W64 x) (ha : inM m a = true) :
    Calls Try.prog 57 #[.pointer (some ⟨b, 0, none⟩), .int .i64 a] w fun e w' => e = .returned (.int .i64 0) ∧ St w0 w' (RmA b (accM m) :: L) := by
  have q1 := hk.tkb
  have q2 := hk.wb
  obtain ⟨A, c, B, d, c0, c1, c2, c3, _⟩ := h.rcells
  have HIN := Aside0.mk (in_calls h (by omega) h1 ha)
  have HSK := Aside0.mk (rstrike_calls (t := m.tk) h hk.few hk.wb h64)
  obtain ⟨tk, htk⟩ : ∃ tk, m.tk = tk := ⟨_, rfl⟩
  have HTK := Aside0.mk htk
  rw [htk] at HSK c2 q1
  have e1 : 0 ≤ tk := q1.1
  have e2 : tk ≤ 100000 := by omega
  clear h hk hk2 h1 h64 ha c0 c1 c3 htk q1 q2
  go_enter Try.func57, Try.ntmps57
  go_wp2_with (first
    | (go_at_call 64; refine HIN.out.mono ?_; rintro e w2 ⟨rfl, hw⟩; obtain rfl := hw.symm)
    | (go_at_call 58; refine HSK.out.mono ?_; rintro e w3 ⟨rfl, h⟩; obtain ⟨_, _, _, _, _, _, z2, _, zf, _⟩ := h.rcells; have z3 := zf 2; (try simp only at z2); (try rw [HTK.out] at z2); have S3 := Aside0.mk h; clear h zf))
  go_ret
  refine ⟨rfl, ?_⟩
  have h5 := S3.out.rset (j := 2) (x := .int .i64 (tk + 1)) (m' := ⟨stkL m.ws (m.evs.filter (upto tk)), m.evs.filter (past tk), tk + 1, m.ah⟩) rfl rfl (fun v u => rfl)
  have h6 : accM m = ⟨stkL m.ws (m.evs.filter (upto tk)), m.evs.filter (past tk), tk + 1, m.ah⟩ := by unfold accM; rw [HTK.out]
  rw [h6]
  exact h5
theorem raccOut_calls {w0 w : World} {L : List Asn} {b k : Nat} {m : MS} {a : Int} (h : St w0 w (RmA b m :: L)) (hk : OkM m k) (h1 : 1 ≤ m.ws.length) (ha : inM m a = false) :
    Calls Try.prog 57 #[.pointer (some ⟨b, 0, none⟩), .int .i64 a] w fun e w' => e = .returned (.int .i64 1) ∧ w' = w := by
  have q2 := hk.wb
  have HIN := Aside0.mk (in_calls h (by omega) h1 ha)
  clear h hk h1 ha
  go_enter Try.func57, Try.ntmps57
  go_wp2_with (go_at_call 64; refine HIN.out.mono ?_; rintro e w2 ⟨rfl, hw⟩; obtain rfl := hw.symm)
  go_ret
  exact ⟨rfl, rfl⟩
theorem rload_calls {w0 w : World} {L : List Asn} {b k : Nat} {m : MS} {a : Int} (h : St w0 w (RmA b m :: L)) (hk : OkM m k) (hk2 : k ≤ 100000) (h1 : 1 ≤ m.ws.length) (h64 : ∀ x ∈ m.ws, W64 x) (ha : inM m a = true) :
    Calls Try.prog 43 #[.pointer (some ⟨b, 0, none⟩), .int .i64 a] w fun e w' => e = .returned (.tuple #[.int .u64 ((accM m).ws.getD a.toNat 0), .int .i64 0]) ∧ St w0 w' (RmA b (accM m) :: L) := by
  have h0 := inM_iff.1 ha
  obtain ⟨i, rfl⟩ : ∃ i : Nat, a = i := ⟨a.toNat, by omega⟩
  obtain ⟨n, hn⟩ : ∃ n, m.ws.length = n := ⟨_, rfl⟩
  have HN : Aside0 ((accM m).ws.length = n) := ⟨(accM_len m).trans hn⟩
  have hwb := hk.wb
  have HA := Aside0.mk (racc_calls h hk hk2 h1 h64 ha)
  rw [hn] at h0 hwb
  have hin : i < n := by omega
  rw [Int.toNat_natCast]
  obtain ⟨u, hu⟩ : ∃ u, (accM m).ws.getD i 0 = u := ⟨_, rfl⟩
  have HU := Aside0.mk hu
  rw [hu]
  obtain ⟨m', hm'⟩ : ∃ m', accM m = m' := ⟨_, rfl⟩
  rw [hm'] at HA HU HN
  rw [hm']
  clear h hk ha hn h0 hu hm' h1 h64
  go_enter Try.func43, Try.ntmps43
  go_wp2_with (go_at_call 57; refine HA.out.mono ?_; rintro e w1 ⟨rfl, h⟩; obtain ⟨r, c, c0, c1, c2, c3⟩ := h.rword i (by rw [HN.out]; exact hin); rw [HN.out] at c0; rw [HU.out] at c1; have S1 := Aside0.mk h; clear h c3)
  go_ret2
  exact ⟨rfl, S1.out⟩
theorem rloadOut_calls {w0 w : World} {L : List Asn} {b k : Nat} {m : MS} {a : Int} (h : St w0 w (RmA b m :: L)) (hk : OkM m k) (h1 : 1 ≤ m.ws.length) (ha : inM m a = false) :
    Calls Try.prog 43 #[.pointer (some ⟨b, 0, none⟩), .int .i64 a] w fun e w' => e = .returned (.tuple #[.int .u64 0, .int .i64 1]) ∧ w' = w := by
  have HA := Aside0.mk (raccOut_calls h hk h1 ha)
  clear h hk ha h1
  go_enter Try.func43, Try.ntmps43
  go_wp2_with (go_at_call 57; refine HA.out.mono ?_; rintro e w1 ⟨rfl, hw⟩; obtain rfl := hw.symm)
  go_ret2
  exact ⟨rfl, rfl⟩
theorem rstore_calls {w0 w : World} {L : List Asn} {b k : Nat} {m : MS} {a v : Int} (h : St w0 w (RmA b m :: L)) (hk : OkM m k) (hk2 : k ≤ 100000) (h1 : 1 ≤ m.ws.length) (h64 : ∀ x ∈ m.ws, W64 x) (ha : inM m a = true) :
    Calls Try.prog 41 #[.pointer (some ⟨b, 0, none⟩), .int .i64 a, .int .u64 v] w fun e w' => e = .returned (.int .i64 0) ∧ St w0 w' (RmA b (setM (accM m) a v) :: L) := by
  have h0 := inM_iff.1 ha
  obtain ⟨i, rfl⟩ : ∃ i : Nat, a = i := ⟨a.toNat, by omega⟩
  obtain ⟨n, hn⟩ : ∃ n, m.ws.length = n := ⟨_, rfl⟩
  have HN : Aside0 ((accM m).ws.length = n) := ⟨(accM_len m).trans hn⟩
  have hwb := hk.wb
  have HA := Aside0.mk (racc_calls h hk hk2 h1 h64 ha)
  rw [hn] at h0 hwb
  have hin : i < n := by omega
  obtain ⟨m', hm'⟩ : ∃ m', accM m = m' := ⟨_, rfl⟩
  rw [hm'] at HA HN
  rw [hm']
  clear h hk ha hn h0 hm' h1 h64
  go_enter Try.func41, Try.ntmps41
  go_wp2_with (go_at_call 57; refine HA.out.mono ?_; rintro e w1 ⟨rfl, h⟩; obtain ⟨r, c, c0, c1, c2, c3⟩ := h.rword i (by rw [HN.out]; exact hin); rw [HN.out] at c0; have C3 := Aside0.mk c3; clear h c3)
  go_ret
  exact ⟨rfl, C3.out v⟩
theorem rstoreOut_calls {w0 w : World} {L : List Asn} {b k : Nat} {m : MS} {a v : Int} (h : St w0 w (RmA b m :: L)) (hk : OkM m k) (h1 : 1 ≤ m.ws.length) (ha : inM m a = false) :
    Calls Try.prog 41 #[.pointer (some ⟨b, 0, none⟩), .int .i64 a, .int .u64 v] w fun e w' => e = .returned (.int .i64 1) ∧ w' = w := by
  have HA := Aside0.mk (raccOut_calls h hk h1 ha)
  clear h hk ha h1
  go_enter Try.func41, Try.ntmps41
  go_wp2_with (go_at_call 57; refine HA.out.mono ?_; rintro e w1 ⟨rfl, hw⟩; obtain rfl := hw.symm)
  go_ret
  exact ⟨rfl, rfl⟩
end Go.Proofs.Ytopmikcljekdiaa.Ag
