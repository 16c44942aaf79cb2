/- MemKeeps: the walk. -/
import Derived.Test.YtopmikcljekdiaaMemK
namespace Go.Proofs.Ytopmikcljekdiaa.Ag
open Go.RowKit Go.Proofs.YtopmikcljekdiaaW.PrintWords Go.Proofs.YtopmikcljekdiaaW.PrintLast Go.Proofs.YtopmikcljekdiaaW.PrintMore Go.Proofs.Ytopmikcljekdiaa.PA Go.Proofs.Ytopmikcljekdiaa.SL
set_option linter.unusedVariables false
set_option maxRecDepth 100000
set_option maxHeartbeats 16000000
theorem keeps_small {words : Int} {m d : Nat} {B : Option Addr} {w : World} (h : words < 1) : Calls Try.prog 10 #[.int .i64 words, .slice B m d] w fun e w' => e = .returned (.bool true) ∧ Below w.heap.size w w' := by
  have S0 := Aside0.mk (St.nil w)
  have d1 : decide (words < 1) = true := decide_eq_true h
  clear h
  go_enter Try.func10, Try.ntmps10
  go_wp2_with (go_at_call 30; refine S0.out.mlive.mono ?_; rintro e w1 ⟨rfl, h⟩; have S1 := Aside0.mk h; clear h)
  go_ret
  exact ⟨rfl, S1.out.below⟩
theorem nil_C31 {w : World} : Kd.C k31 w none 0 [] := ⟨rfl, by omega, fun h => by omega⟩
theorem keeps_many {words : Int} {m d : Nat} {B : Option Addr} {ops : List S64} {w : World} (hro : Kd.C k64 w B m ops) (hm : ops.length = m) (hd : m ≤ d) (hl : m ≤ 9223372036854775807) (h : ¬ words < 1) (hf : fewB words 0 ops = false) :
    Calls Try.prog 10 #[.int .i64 words, .slice B m d] w fun e w' => e = .returned (.bool true) ∧ Below w.heap.size w w' := by
  have S0 := Aside0.mk (St.nil w)
  have HO := Aside0.mk hro
  have HM := Aside0.mk hm
  have HFB := Aside0.mk hf
  have HD := Aside0.mk hd
  have HL := Aside0.mk hl
  have d1 : decide (words < 1) = false := decide_eq_false h
  clear h hro hm hf hd hl
  go_enter Try.func10, Try.ntmps10
  go_wp2_with (first
    | (go_at_call 30; refine S0.out.mlive.mono ?_; rintro e w1 ⟨rfl, h⟩; have S1 := Aside0.mk h; clear h)
    | (go_at_call 36; refine (St.few (words := words) (c := 0) S1.out nil_C31 rfl (Nat.le_refl 0) HO.out HM.out HD.out HL.out).mono ?_; rintro e w2 ⟨rfl, h⟩; rw [HFB.out]; have S2 := Aside0.mk h; clear h))
  go_ret
  exact ⟨rfl, S2.out.below⟩
/-- Words where they lie, in a row held by itself. -/
theorem St.wat {w0 w : World} {L : List Asn} {r n c : Nat} {ws : List Int} (h : St w0 w (WoA (.slice (some ⟨r, 0, none⟩) n c) ws :: L)) (hn : ws.length = n) (i : Nat) (hi : i < n) :
    w.cell? ⟨r, i, none⟩ = some (.int .u64 (ws.getD i 0)) ∧ w.frozen? ⟨r, i, none⟩ = false ∧ ∀ u : Int, St w0 (w.setCell ⟨r, i, none⟩ (.int .u64 u)) (WoA (.slice (some ⟨r, 0, none⟩) n c) (ws.set i u) :: L) := by
  subst hn
  obtain ⟨F, hA, _, hn2⟩ := h.one
  obtain ⟨h1, h2, h3⟩ := hA
  obtain ⟨q, e, hc, hf⟩ := WoR.at h2 rfl i hi
  injection e with e
  injection e with e1 _ _
  subst e1
  refine ⟨hc, hf, fun u => ?_⟩
  have hch := Chg.set w r i (.int .u64 u) (h3 r rfl)
  refine hn2 _ F [_] hch ⟨F, ⟨fun k hk => Nat.lt_of_lt_of_le (h1 k hk) hch.size, ?_, h3⟩, fun _ h => h, trivial⟩
  have h5' : w.ownsRow 0 29 1 (.slice (some ⟨r, 0, none⟩) ws.length c) ws.length (nums .u64 ws) := h2
  have hset : (nums .u64 ws).set i (.int .u64 u) = nums .u64 (ws.set i u) := by unfold nums; rw [List.map_set]
  unfold WoR
  rw [List.length_set, ← hset]
  exact own_set h5' _
theorem St.wmade {w0 w : World} {L : List Asn} (h : St w0 w L) (n : Nat) (hn : n ≤ 100000) :
    St w0 (w.alloc (wordsO n)) (WoA (.slice (some ⟨w.heap.size, 0, none⟩) n n) (List.replicate n 0) :: L) := by
  have hb1 : Below w.heap.size w (w.alloc (wordsO n)) := below_alloc (Below.refl _ _) _
  have how : WoR (w.alloc (wordsO n)) (.slice (some ⟨w.heap.size, 0, none⟩) n n) (List.replicate n 0) := by
    unfold WoR
    rw [List.length_replicate]
    exact own_made w 0 29 .u64 n (Nat.zero_le _) (by omega)
  refine h.add (F' := fun k => k = w.heap.size) ⟨hb1.os, hb1.tape, hb1.output, hb1.size, fun k hk _ => hb1.block k hk, fun k hk => .inr (by omega)⟩ ⟨fun k hk => by simp [hk], how, fun k hk => ?_⟩
  have : w.heap.size = k := by simpa [own1, Value.ownBlock] using hk
  exact this.symm
theorem acc_none {m : MS} (h : m.evs = []) : (accM m).ws = m.ws ∧ (accM m).evs = [] := by
  simp [accM, h, stkL]
/-- Without events: what is done, and what is told. -/
theorem doM_keeps {m m' : MS} {kd a u v f : Int} (he : m.evs = []) (hd : doM m kd a u [] = (m', v, f)) :
    m'.evs = [] ∧
    (((kd % 4 == 2) = true ∧ (0 ≤ a ∧ a < m.ws.length) ∧ f = 0 ∧ m'.ws = m.ws.set a.toNat u) ∨
     ((kd % 4 == 2) = true ∧ ¬ (0 ≤ a ∧ a < m.ws.length) ∧ f = 1 ∧ m'.ws = m.ws) ∨
     ((kd % 4 == 2) = false ∧ (kd % 4 == 3) = true ∧ f = 0 ∧ m'.ws = m.ws) ∨
     ((kd % 4 == 2) = false ∧ (kd % 4 == 3) = false ∧ (0 ≤ a ∧ a < m.ws.length) ∧ f = 0 ∧ v = m.ws.getD a.toNat 0 ∧ m'.ws = m.ws) ∨
     ((kd % 4 == 2) = false ∧ (kd % 4 == 3) = false ∧ ¬ (0 ≤ a ∧ a < m.ws.length) ∧ f = 1 ∧ m'.ws = m.ws)) := by
  have hn : inM m a = false → ¬ (0 ≤ a ∧ a < m.ws.length) := fun h hh => by rw [inM_iff.2 hh] at h; cases h
  have hacc := acc_none he
  rcases doM_ways m kd a u [] with ⟨h1, h2, h3⟩ | ⟨h1, h2, h3⟩ | ⟨h1, h2, h3⟩ | ⟨h1, h2, h3⟩ | ⟨h0, h1, h2, h3⟩ | ⟨h0, h1, h2, h3⟩
  all_goals
    rw [h3] at hd
    cases hd
  · exact ⟨rfl, .inr (.inr (.inl ⟨beq_eq_false_iff_ne.2 (by omega), beq_iff_eq.2 h1, rfl, by simp [nextM, he, stkL]⟩))⟩
  · simp at h2
  · exact ⟨hacc.2, .inl ⟨beq_iff_eq.2 h1, inM_iff.1 h2, rfl, by simp [setM, hacc.1]⟩⟩
  · exact ⟨he, .inr (.inl ⟨beq_iff_eq.2 h1, hn h2, rfl, rfl⟩)⟩
  · exact ⟨hacc.2, .inr (.inr (.inr (.inl ⟨beq_eq_false_iff_ne.2 h0, beq_eq_false_iff_ne.2 h1, inM_iff.1 h2, rfl, by rw [hacc.1], hacc.1⟩)))⟩
  · exact ⟨he, .inr (.inr (.inr (.inr ⟨beq_eq_false_iff_ne.2 h0, beq_eq_false_iff_ne.2 h1, hn h2, rfl, rfl⟩)))⟩
/-- What holds at each round. -/
structure KR (w wr : World) (b r words k : Nat) (s : MS) : Prop where
  ok : OkM s k
  none : s.evs = []
  len : s.ws.length = words
  st : St w wr [MemA b s, WoA (.slice (some ⟨r, 0, Option.none⟩) words words) s.ws]
theorem keeps_walk {words m d : Nat} {B : Option Addr} {ops : List S64} {w : World} (hro : Kd.C k64 w B m ops) (hm : ops.length = m) (hd : m ≤ d) (hl : m ≤ 9223372036854775807) (h : ¬ words < 1) (hf : fewB words 0 ops = true)
    (hok : ∀ o ∈ ops, OpOk o) :
    Calls Try.prog 10 #[.int .i64 words, .slice B m d] w fun e w' => e = .returned (.bool true) ∧ Below w.heap.size w w' := by
  have S0 := Aside0.mk (St.nil w)
  have hfew := few_of hf
  have hw60 : words ≤ 60 := by have := hfew.small; omega
  have hm80 : m ≤ 80 := by have := hfew.short; omega
  have O0 : Aside0 (OkM ⟨List.replicate words 0, [], 0, 0⟩ 0) := ⟨⟨by simp, by simp, by simp, by simp, by simp; omega⟩⟩
  have HO := Aside0.mk hro
  have HM := Aside0.mk hm
  have HFB := Aside0.mk hf
  have HD := Aside0.mk hd
  have HL := Aside0.mk hl
  have HOK := Aside0.mk hok
  have HFEW := Aside0.mk hfew
  have HW1 : Aside0 (1 ≤ words) := ⟨by omega⟩
  have HW2 : Aside0 (words ≤ 16384) := ⟨by omega⟩
  have HW3 : Aside0 (words ≤ 100000) := ⟨by omega⟩
  have d1 : decide ((words : Int) < 1) = false := decide_eq_false (by omega)
  have hmk := print_make (P := Try.prog) 62 29 .u64 8 Try.underlying62 info29 (by decide) words (by omega)
  clear h hro hm hf hd hl hok hfew
  go_enter Try.func10, Try.ntmps10
  go_wp2_with (first
    | (go_at_call 30; refine S0.out.mlive.mono ?_; rintro e w1 ⟨rfl, h⟩; have S1 := Aside0.mk h; clear h)
    | (go_at_call 36; refine (St.few (words := words) (c := 0) S1.out nil_C31 rfl (Nat.le_refl 0) HO.out HM.out HD.out HL.out).mono ?_; rintro e w2 ⟨rfl, h⟩; rw [HFB.out]; have S2 := Aside0.mk h; clear h)
    | (go_at_call 31; refine (S2.out.mnew (n := words) (c := 0) HW1.out HW2.out nil_C31 rfl (Nat.zero_le _)).mono ?_; rintro e w3 ⟨b, rfl, h⟩; have S3 := Aside0.mk h; clear h))
  have S4 := Aside0.mk (S3.out.wmade words HW3.out)
  clear hmk
  obtain ⟨r, hr⟩ : ∃ r, w3.heap.size = r := ⟨_, rfl⟩
  rw [hr] at S4 ⊢
  clear hr
  unfold wordsO at S4
  go_loopw [38] (fun v38 wr => ∃ (k : Nat) (s : MS), v38 = .int .i64 k ∧ Aside0 (k ≤ m) ∧ Aside0 (KR w wr b r words k s)) (fun v38 _ => m - (intOf v38).toNat)
  case atStart => exact ⟨0, ⟨List.replicate words 0, [], 0, 0⟩, rfl, ⟨Nat.zero_le _⟩, ⟨⟨O0.out, rfl, by simp, S4.out.sw1⟩⟩⟩
  case round =>
    obtain ⟨k, s, rfl, HK, HD⟩ := hrel
    obtain ⟨kok, knone, klen, kst⟩ := HD.out
    by_cases hkk : k < m
    · have hkx : k < ops.length := by have := HM.out; omega
      obtain ⟨ad, A3, c3, ea, x0, x1, x2, x3, hl3, hi3⟩ := at_T64 (below_C64 HO.out kst.below) (k : Int) (by omega) (by omega)
      have hrd : rd_T64 ops (k : Int) = ops[k] := by simp [rd_T64, hkx]
      rw [hrd] at x0 x1 x2 x3 hl3 hi3
      rw [Int.toNat_natCast] at x0 x1 x2 x3
      have hoo := HOK.out ops[k] (List.getElem_mem hkx)
      generalize ops[k] = o at *
      obtain ⟨kd, a, u, os⟩ := o
      simp only at x0 x1 x2 x3 hl3 hi3
      have g0 := hoo.kind.1
      have g1 := hoo.kind.2
      simp only at g0 g1
      subst ea
      obtain ⟨n3, hn3⟩ : ∃ n3, os.length = n3 := ⟨_, rfl⟩
      rw [hn3] at x3 hl3 hi3
      obtain ⟨Bo, hBo⟩ : ∃ Bo : Obj, Bo = .cells #[.int .u8 kd, .int .i64 a, .int .u64 u, .slice none 0 0] 64 := ⟨_, rfl⟩
      obtain ⟨s', v, f, hdo⟩ : ∃ s' v f, doM s kd a u [] = (s', v, f) := ⟨_, _, _, rfl⟩
      have S5 : Aside0 (St w (wr.alloc Bo) [MemA b s, BlkA wr.heap.size Bo, WoA (.slice (some ⟨r, 0, none⟩) words words) s.ws]) := ⟨(kst.box Bo).sw1⟩
      have HBo := Aside0.mk hBo
      have HDO := Aside0.mk (St.doAny (c := 0) S5.out kok (by omega) ⟨g0, g1⟩ nil_C31 rfl hdo)
      unfold opV at HDO
      have hK' : OkM s' (k + 1) := by have := kok.op (kd := kd) (a := a) (u := u) (xs := []) (by simp); rw [hdo] at this; exact this
      have hL' : s'.ws.length = words := by have := doM_len s kd a u []; rw [hdo] at this; exact this.trans klen
      obtain ⟨hN', hways⟩ := doM_keeps knone hdo
      rw [klen] at hways
      have K' := Aside0.mk hK'
      have L' := Aside0.mk hL'
      have N' := Aside0.mk hN'
      have LW : Aside0 (s.ws.length = words) := ⟨klen⟩
      have KK := Aside0.mk hkk
      clear hrd hkx hi3 hoo hdo hK' hL' hN' kok knone klen kst hn3
      subst hBo
      rcases hways with ⟨e1, i1, rfl, ew⟩ | ⟨e1, i1, rfl, ew⟩ | ⟨e1, e2, rfl, ew⟩ | ⟨e1, e2, i1, rfl, ev, ew⟩ | ⟨e1, e2, i1, rfl, ew⟩
      · obtain ⟨i, rfl⟩ : ∃ i : Nat, a = i := ⟨a.toNat, by omega⟩
        have hi : i < words := by omega
        have j1 : decide (0 ≤ (i : Int)) = true := decide_eq_true (by omega)
        have j2 : decide ((i : Int) < (words : Int)) = true := decide_eq_true (by omega)
        rw [Int.toNat_natCast] at ew
        clear i1
        have EW := Aside0.mk ew
        have EL : Aside0 ((s.ws.set i u).length = words) := ⟨by rw [List.length_set]; exact LW.out⟩
        clear ew
        go_wp2_with (first
          | (go_at_call 37; refine HDO.out.mono ?_; rintro e w5 ⟨rfl, h⟩; have q := h.sw1.blk; have z0 : w5.cell? ⟨wr.heap.size, 0, none⟩ = some (.int .u8 kd) := cell_of_block q 0; have z1 : w5.cell? ⟨wr.heap.size, 1, none⟩ = some (.int .i64 _) := cell_of_block q 1; have z2 : w5.cell? ⟨wr.heap.size, 2, none⟩ = some (.int .u64 u) := cell_of_block q 2; clear q; have S6 := Aside0.mk h.sw1.drop; have hrow := h.sw1.drop.sw1.wat LW.out i hi; have y1 := hrow.1; have y2 := hrow.2.1; have S6b : Aside0 (St w (w5.setCell ⟨r, i, none⟩ (.int .u64 u)) [MemA b s', WoA (.slice (some ⟨r, 0, none⟩) words words) (s.ws.set i u)]) := ⟨(hrow.2.2 u).sw1⟩; clear hrow; clear h)
          | (go_at_call 39; refine (St.wordsE (n := words) S6b.out K'.out EW.out EL.out).mono ?_; rintro e w6 ⟨A6, c6, rfl, h⟩; have S7 := Aside0.mk h; clear h)
          | (go_at_call 38; refine (St.sameW S7.out S7.out.sw2 EL.out HW3.out).mono ?_; rintro e w7 ⟨rfl, h⟩; have S8 := Aside0.mk h.drop; clear h))
        go_roundw
        case rel => exact ⟨k + 1, s', by go_num, KK, ⟨⟨K'.out, N'.out, L'.out, by rw [EW.out]; exact S8.out⟩⟩⟩
        case measure => simp [intOf]; omega
      · have EW := Aside0.mk ew
        have EL : Aside0 (s.ws.length = words) := LW
        clear ew
        have hcs : decide (0 ≤ a) = false ∨ (decide (0 ≤ a) = true ∧ decide (a < (words : Int)) = false) := by
          simp only [decide_eq_true_eq, decide_eq_false_iff_not]
          omega
        clear i1
        rcases hcs with j1 | ⟨j1, j2⟩
        all_goals
          go_wp2_with (first
            | (go_at_call 37; refine HDO.out.mono ?_; rintro e w5 ⟨rfl, h⟩; have q := h.sw1.blk; have z0 : w5.cell? ⟨wr.heap.size, 0, none⟩ = some (.int .u8 kd) := cell_of_block q 0; have z1 : w5.cell? ⟨wr.heap.size, 1, none⟩ = some (.int .i64 _) := cell_of_block q 1; have z2 : w5.cell? ⟨wr.heap.size, 2, none⟩ = some (.int .u64 u) := cell_of_block q 2; clear q; have S6 := Aside0.mk h.sw1.drop; clear h)
            | (go_at_call 39; refine (St.wordsE (n := words) S6.out K'.out EW.out EL.out).mono ?_; rintro e w6 ⟨A6, c6, rfl, h⟩; have S7 := Aside0.mk h; clear h)
            | (go_at_call 38; refine (St.sameW S7.out S7.out.sw2 EL.out HW3.out).mono ?_; rintro e w7 ⟨rfl, h⟩; have S8 := Aside0.mk h.drop; clear h))
          go_roundw
          case rel => exact ⟨k + 1, s', by go_num, KK, ⟨⟨K'.out, N'.out, L'.out, by rw [EW.out]; exact S8.out⟩⟩⟩
          case measure => simp [intOf]; omega
      · have EW := Aside0.mk ew
        have EL : Aside0 (s.ws.length = words) := LW
        clear ew
        have hcs : decide (0 ≤ a) = false ∨ (decide (0 ≤ a) = true ∧ decide (a < (words : Int)) = false) ∨ (decide (0 ≤ a) = true ∧ decide (a < (words : Int)) = true) := by
          simp only [decide_eq_true_eq, decide_eq_false_iff_not]
          omega
        rcases hcs with j1 | ⟨j1, j2⟩ | ⟨j1, j2⟩
        all_goals
          go_wp2_with (first
            | (go_at_call 37; refine HDO.out.mono ?_; rintro e w5 ⟨rfl, h⟩; have q := h.sw1.blk; have z0 : w5.cell? ⟨wr.heap.size, 0, none⟩ = some (.int .u8 kd) := cell_of_block q 0; have z1 : w5.cell? ⟨wr.heap.size, 1, none⟩ = some (.int .i64 _) := cell_of_block q 1; have z2 : w5.cell? ⟨wr.heap.size, 2, none⟩ = some (.int .u64 u) := cell_of_block q 2; clear q; have S6 := Aside0.mk h.sw1.drop; clear h)
            | (go_at_call 39; refine (St.wordsE (n := words) S6.out K'.out EW.out EL.out).mono ?_; rintro e w6 ⟨A6, c6, rfl, h⟩; have S7 := Aside0.mk h; clear h)
            | (go_at_call 38; refine (St.sameW S7.out S7.out.sw2 EL.out HW3.out).mono ?_; rintro e w7 ⟨rfl, h⟩; have S8 := Aside0.mk h.drop; clear h))
          go_roundw
          case rel => exact ⟨k + 1, s', by go_num, KK, ⟨⟨K'.out, N'.out, L'.out, by rw [EW.out]; exact S8.out⟩⟩⟩
          case measure => simp [intOf]; omega
      · have EW := Aside0.mk ew
        have EL : Aside0 (s.ws.length = words) := LW
        clear ew
        obtain ⟨i, rfl⟩ : ∃ i : Nat, a = i := ⟨a.toNat, by omega⟩
        have hi : i < words := by omega
        have j1 : decide (0 ≤ (i : Int)) = true := decide_eq_true (by omega)
        have j2 : decide ((i : Int) < (words : Int)) = true := decide_eq_true (by omega)
        rw [Int.toNat_natCast] at ev
        clear i1
        subst ev
        go_wp2_with (first
          | (go_at_call 37; refine HDO.out.mono ?_; rintro e w5 ⟨rfl, h⟩; have q := h.sw1.blk; have z0 : w5.cell? ⟨wr.heap.size, 0, none⟩ = some (.int .u8 kd) := cell_of_block q 0; have z1 : w5.cell? ⟨wr.heap.size, 1, none⟩ = some (.int .i64 _) := cell_of_block q 1; have z2 : w5.cell? ⟨wr.heap.size, 2, none⟩ = some (.int .u64 u) := cell_of_block q 2; clear q; have S6 := Aside0.mk h.sw1.drop; have hrow := h.sw1.drop.sw1.wat LW.out i hi; have y1 := hrow.1; clear hrow; clear h)
          | (go_at_call 39; refine (St.wordsE (n := words) S6.out K'.out EW.out EL.out).mono ?_; rintro e w6 ⟨A6, c6, rfl, h⟩; have S7 := Aside0.mk h; clear h)
          | (go_at_call 38; refine (St.sameW S7.out S7.out.sw2 EL.out HW3.out).mono ?_; rintro e w7 ⟨rfl, h⟩; have S8 := Aside0.mk h.drop; clear h))
        go_roundw
        case rel => exact ⟨k + 1, s', by go_num, KK, ⟨⟨K'.out, N'.out, L'.out, by rw [EW.out]; exact S8.out⟩⟩⟩
        case measure => simp [intOf]; omega
      · have EW := Aside0.mk ew
        have EL : Aside0 (s.ws.length = words) := LW
        clear ew
        have hcs : decide (0 ≤ a) = false ∨ (decide (0 ≤ a) = true ∧ decide (a < (words : Int)) = false) := by
          simp only [decide_eq_true_eq, decide_eq_false_iff_not]
          omega
        clear i1
        rcases hcs with j1 | ⟨j1, j2⟩
        all_goals
          go_wp2_with (first
            | (go_at_call 37; refine HDO.out.mono ?_; rintro e w5 ⟨rfl, h⟩; have q := h.sw1.blk; have z0 : w5.cell? ⟨wr.heap.size, 0, none⟩ = some (.int .u8 kd) := cell_of_block q 0; have z1 : w5.cell? ⟨wr.heap.size, 1, none⟩ = some (.int .i64 _) := cell_of_block q 1; have z2 : w5.cell? ⟨wr.heap.size, 2, none⟩ = some (.int .u64 u) := cell_of_block q 2; clear q; have S6 := Aside0.mk h.sw1.drop; clear h)
            | (go_at_call 39; refine (St.wordsE (n := words) S6.out K'.out EW.out EL.out).mono ?_; rintro e w6 ⟨A6, c6, rfl, h⟩; have S7 := Aside0.mk h; clear h)
            | (go_at_call 38; refine (St.sameW S7.out S7.out.sw2 EL.out HW3.out).mono ?_; rintro e w7 ⟨rfl, h⟩; have S8 := Aside0.mk h.drop; clear h))
          go_roundw
          case rel => exact ⟨k + 1, s', by go_num, KK, ⟨⟨K'.out, N'.out, L'.out, by rw [EW.out]; exact S8.out⟩⟩⟩
          case measure => simp [intOf]; omega
    · have S9 := Aside0.mk kst
      clear kok knone klen kst
      go_wp2
      go_ret
      exact ⟨rfl, S9.out.below⟩
theorem keeps_all {words : Int} {m d : Nat} {B : Option Addr} {ops : List S64} {w : World} (hro : Kd.C k64 w B m ops) (hm : ops.length = m) (hd : m ≤ d) (hl : m ≤ 9223372036854775807) (hok : ∀ o ∈ ops, OpOk o) :
    Calls Try.prog 10 #[.int .i64 words, .slice B m d] w fun e w' => e = .returned (.bool true) ∧ Below w.heap.size w w' := by
  by_cases h : words < 1
  · exact keeps_small h
  · cases hf : fewB words 0 ops with
    | false => exact keeps_many hro hm hd hl h hf
    | true =>
      obtain ⟨k, rfl⟩ : ∃ k : Nat, words = k := ⟨words.toNat, by omega⟩
      exact keeps_walk hro hm hd hl (by omega) hf hok
end Go.Proofs.Ytopmikcljekdiaa.Ag
