/- MemDoes: the walk. -/
import Derived.Test.YtopmikcljekdiaaMemRef3
namespace Go.Proofs.Ytopmikcljekdiaa.Ag
open Go.RowKit Go.Proofs.YtopmikcljekdiaaW.PrintWords Go.Proofs.YtopmikcljekdiaaW.PrintLast Go.Proofs.YtopmikcljekdiaaW.PrintMore Go.Proofs.Ytopmikcljekdiaa.PA Go.Proofs.Ytopmikcljekdiaa.SL
attribute [local go_sem] max2_int min2_int max_two min_two max_three min_three max_four min_four
set_option linter.unusedVariables false
set_option maxRecDepth 100000
set_option maxHeartbeats 32000000
theorem mdoes_many0 {words : Int} {n m c d : Nat} {A B : Option Addr} {xs : List S31} {ops : List S64} {w : World} (hr : Kd.C k31 w A n xs) (hx : xs.length = n) (hc : n ≤ c) (hro : Kd.C k64 w B m ops) (hm : ops.length = m) (hd : m ≤ d) (hl : m ≤ 9223372036854775807) (h60 : ¬ 60 < words) (hf : fewB words n ops = false) :
    Calls Try.prog 11 #[.int .i64 words, .slice A n c, .slice B m d] w fun e w' => e = .returned (.bool true) ∧ Below w.heap.size w w' := by
  have S0 := Aside0.mk (St.nil w)
  have HR := Aside0.mk hr
  have HO := Aside0.mk hro
  have HX := Aside0.mk hx
  have HM := Aside0.mk hm
  have HC := Aside0.mk hc
  have HD := Aside0.mk hd
  have HL := Aside0.mk hl
  have HFB := Aside0.mk hf
  clear hf
  clear hr hro hx hm hc hd hl
  go_enter Try.func11, Try.ntmps11
  go_wp2_with (first
    | (go_at_call 30; refine S0.out.mlive.mono ?_; rintro e w1 ⟨rfl, h⟩; have S1 := Aside0.mk h; clear h)
    | (go_at_call 36; refine (St.few S1.out HR.out HX.out HC.out HO.out HM.out HD.out HL.out).mono ?_; rintro e w2 ⟨rfl, h⟩; rw [HFB.out]; have S2 := Aside0.mk h; clear h))
  go_ret
  exact ⟨rfl, S2.out.below⟩
theorem mdoes_many1 {words : Int} {n m c d : Nat} {A B : Option Addr} {xs : List S31} {ops : List S64} {w : World} (hr : Kd.C k31 w A n xs) (hx : xs.length = n) (hc : n ≤ c) (hro : Kd.C k64 w B m ops) (hm : ops.length = m) (hd : m ≤ d) (hl : m ≤ 9223372036854775807) (h60 : 60 < words) (hf : fewB 60 n ops = false) :
    Calls Try.prog 11 #[.int .i64 words, .slice A n c, .slice B m d] w fun e w' => e = .returned (.bool true) ∧ Below w.heap.size w w' := by
  have S0 := Aside0.mk (St.nil w)
  have HR := Aside0.mk hr
  have HO := Aside0.mk hro
  have HX := Aside0.mk hx
  have HM := Aside0.mk hm
  have HC := Aside0.mk hc
  have HD := Aside0.mk hd
  have HL := Aside0.mk hl
  have HFB := Aside0.mk hf
  clear hf
  clear hr hro hx hm hc hd hl
  go_enter Try.func11, Try.ntmps11
  go_wp2_with (first
    | (go_at_call 30; refine S0.out.mlive.mono ?_; rintro e w1 ⟨rfl, h⟩; have S1 := Aside0.mk h; clear h)
    | (go_at_call 36; refine (St.few S1.out HR.out HX.out HC.out HO.out HM.out HD.out HL.out).mono ?_; rintro e w2 ⟨rfl, h⟩; rw [HFB.out]; have S2 := Aside0.mk h; clear h))
  go_ret
  exact ⟨rfl, S2.out.below⟩
theorem mdoes_skip {words : Int} {n m c d : Nat} {A B : Option Addr} {xs : List S31} {ops : List S64} {w : World} (hr : Kd.C k31 w A n xs) (hx : xs.length = n) (hc : n ≤ c) (hro : Kd.C k64 w B m ops) (hm : ops.length = m) (hd : m ≤ d) (hl : m ≤ 9223372036854775807) (h60 : 60 < words) (h16 : words ≤ 16384) (hf : fewB 60 n ops = true) :
    Calls Try.prog 11 #[.int .i64 words, .slice A n c, .slice B m d] w fun e w' => e = .returned (.bool true) ∧ Below w.heap.size w w' := by
  have S0 := Aside0.mk (St.nil w)
  have HR := Aside0.mk hr
  have HO := Aside0.mk hro
  have HX := Aside0.mk hx
  have HM := Aside0.mk hm
  have HC := Aside0.mk hc
  have HD := Aside0.mk hd
  have HL := Aside0.mk hl
  have HFB := Aside0.mk hf
  have d1 : decide (60 < words) = true := decide_eq_true h60
  have d2 : decide (words ≤ 16384) = true := decide_eq_true h16
  clear hf h16
  clear hr hro hx hm hc hd hl
  go_enter Try.func11, Try.ntmps11
  go_wp2_with (first
    | (go_at_call 30; refine S0.out.mlive.mono ?_; rintro e w1 ⟨rfl, h⟩; have S1 := Aside0.mk h; clear h)
    | (go_at_call 36; refine (St.few S1.out HR.out HX.out HC.out HO.out HM.out HD.out HL.out).mono ?_; rintro e w2 ⟨rfl, h⟩; rw [HFB.out]; have S2 := Aside0.mk h; clear h))
  go_ret
  exact ⟨rfl, S2.out.below⟩
theorem mdoes_big {words : Int} {n m c d : Nat} {A B : Option Addr} {xs : List S31} {ops : List S64} {w : World} (hr : Kd.C k31 w A n xs) (hx : xs.length = n) (hc : n ≤ c) (hro : Kd.C k64 w B m ops) (hm : ops.length = m) (hd : m ≤ d) (hl : m ≤ 9223372036854775807) (h60 : 60 < words) (h16 : ¬ words ≤ 16384) (hf : fewB 60 n ops = true) :
    Calls Try.prog 11 #[.int .i64 words, .slice A n c, .slice B m d] w fun e w' => e = .returned (.bool true) ∧ Below w.heap.size w w' := by
  have S0 := Aside0.mk (St.nil w)
  have HR := Aside0.mk hr
  have HO := Aside0.mk hro
  have HX := Aside0.mk hx
  have HM := Aside0.mk hm
  have HC := Aside0.mk hc
  have HD := Aside0.mk hd
  have HL := Aside0.mk hl
  have HFB := Aside0.mk hf
  have d1 : decide (60 < words) = true := decide_eq_true h60
  have d2 : decide (words ≤ 16384) = false := decide_eq_false h16
  have HBAD : Aside0 (words < 1 ∨ 16384 < words) := ⟨.inr (by omega)⟩
  clear hf h16
  clear hr hro hx hm hc hd hl
  go_enter Try.func11, Try.ntmps11
  go_wp2_with (first
    | (go_at_call 30; refine S0.out.mlive.mono ?_; rintro e w1 ⟨rfl, h⟩; have S1 := Aside0.mk h; clear h)
    | (go_at_call 36; refine (St.few S1.out HR.out HX.out HC.out HO.out HM.out HD.out HL.out).mono ?_; rintro e w2 ⟨rfl, h⟩; rw [HFB.out]; have S2 := Aside0.mk h; clear h)
    | (go_at_call 31; refine (mnew_bad HBAD.out).mono ?_; rintro e w3 ⟨rfl, hw⟩; obtain rfl := hw.symm)
    | (go_at_call 40; refine (rnew_bad HBAD.out).mono ?_; rintro e w4 ⟨rfl, hw⟩; obtain rfl := hw.symm))
  go_ret
  exact ⟨rfl, S2.out.below⟩
theorem mdoes_low {words : Int} {n m c d : Nat} {A B : Option Addr} {xs : List S31} {ops : List S64} {w : World} (hr : Kd.C k31 w A n xs) (hx : xs.length = n) (hc : n ≤ c) (hro : Kd.C k64 w B m ops) (hm : ops.length = m) (hd : m ≤ d) (hl : m ≤ 9223372036854775807) (h60 : ¬ 60 < words) (h1 : words < 1) (hf : fewB words n ops = true) :
    Calls Try.prog 11 #[.int .i64 words, .slice A n c, .slice B m d] w fun e w' => e = .returned (.bool true) ∧ Below w.heap.size w w' := by
  have S0 := Aside0.mk (St.nil w)
  have HR := Aside0.mk hr
  have HO := Aside0.mk hro
  have HX := Aside0.mk hx
  have HM := Aside0.mk hm
  have HC := Aside0.mk hc
  have HD := Aside0.mk hd
  have HL := Aside0.mk hl
  have HFB := Aside0.mk hf
  have d1 : decide (60 < words) = false := decide_eq_false h60
  have HBAD : Aside0 (words < 1 ∨ 16384 < words) := ⟨.inl h1⟩
  clear hf h1
  clear hr hro hx hm hc hd hl
  go_enter Try.func11, Try.ntmps11
  go_wp2_with (first
    | (go_at_call 30; refine S0.out.mlive.mono ?_; rintro e w1 ⟨rfl, h⟩; have S1 := Aside0.mk h; clear h)
    | (go_at_call 36; refine (St.few S1.out HR.out HX.out HC.out HO.out HM.out HD.out HL.out).mono ?_; rintro e w2 ⟨rfl, h⟩; rw [HFB.out]; have S2 := Aside0.mk h; clear h)
    | (go_at_call 31; refine (mnew_bad HBAD.out).mono ?_; rintro e w3 ⟨rfl, hw⟩; obtain rfl := hw.symm)
    | (go_at_call 40; refine (rnew_bad HBAD.out).mono ?_; rintro e w4 ⟨rfl, hw⟩; obtain rfl := hw.symm))
  go_ret
  exact ⟨rfl, S2.out.below⟩
theorem St.wform {w0 w : World} {L : List Asn} {A : Option Addr} {n c : Nat} {ws : List Int} (h : St w0 w (WoA (.slice A n c) ws :: L)) (hn : ws.length = n) (i : Nat) (hi : i < n) : ∃ r, A = some ⟨r, 0, none⟩ := by
  obtain ⟨F, hA, _, _⟩ := h.one
  obtain ⟨q, e, _⟩ := WoR.at hA.2.1 hn i hi
  exact ⟨q, e⟩
structure DR (w wr : World) (b r words k : Nat) (s : MS) : Prop where
  ok : OkM s k
  len : s.ws.length = words
  w64 : ∀ x ∈ s.ws, W64 x
  st : St w wr [MemA b s, RmA r s]
theorem acc_W64 {s : MS} (h : ∀ x ∈ s.ws, W64 x) : ∀ x ∈ (accM s).ws, W64 x := stkL_W64 _ h
theorem doM_W64 {s : MS} {kd a u : Int} {xs : List S31} (h : ∀ x ∈ s.ws, W64 x) (hu : W64 u) : ∀ x ∈ (doM s kd a u xs).1.ws, W64 x := by
  have hset : ∀ x ∈ (setM (accM s) a u).ws, W64 x := by
    intro x hx
    rcases List.mem_or_eq_of_mem_set hx with h1 | h1
    · exact acc_W64 h x h1
    · subst h1; exact hu
  unfold doM
  split
  · split
    · exact hset
    · exact h
  · split
    · split
      · exact stkL_W64 _ h
      · exact h
    · split
      · exact acc_W64 h
      · exact h
theorem mdoes_walk {words n m c d : Nat} {A B : Option Addr} {xs : List S31} {ops : List S64} {w : World} (hr : Kd.C k31 w A n xs) (hx : xs.length = n) (hc : n ≤ c) (hro : Kd.C k64 w B m ops) (hm : ops.length = m) (hd : m ≤ d) (hl : m ≤ 9223372036854775807) (h1 : 1 ≤ words) (hf : fewB words n ops = true)
    (ht : ∀ x ∈ xs, x.f3 ≤ 9223372036854775807) (hok : ∀ o ∈ ops, OpOk o) (hu : ∀ o ∈ ops, W64 o.f2) :
    Calls Try.prog 11 #[.int .i64 words, .slice A n c, .slice B m d] w fun e w' => e = .returned (.bool true) ∧ Below w.heap.size w w' := by
  have S0 := Aside0.mk (St.nil w)
  have HR := Aside0.mk hr
  have HO := Aside0.mk hro
  have HX := Aside0.mk hx
  have HM := Aside0.mk hm
  have HC := Aside0.mk hc
  have HD := Aside0.mk hd
  have HL := Aside0.mk hl
  have hfew := few_of hf
  have hw60 : words ≤ 60 := by have := hfew.small; omega
  have hm80 : m ≤ 80 := by have := hfew.short; omega
  have HN : Aside0 (n ≤ 1024) := ⟨by have := hfew.few; omega⟩
  have O0 : Aside0 (OkM ⟨List.replicate words 0, xs, 0, 0⟩ 0) := ⟨⟨by have := hfew.few; simp only; omega, ht, by simp, by simp, by simp; omega⟩⟩
  have W0 : Aside0 (∀ x ∈ List.replicate words (0 : Int), W64 x) := ⟨fun x hx => by obtain rfl := List.eq_of_mem_replicate hx; exact ⟨by omega, by omega⟩⟩
  have HFB := Aside0.mk hf
  have HOK := Aside0.mk hok
  have HU := Aside0.mk hu
  have HW1 := Aside0.mk h1
  have HW2 : Aside0 (words ≤ 16384) := ⟨by omega⟩
  have HW3 : Aside0 (words ≤ 100000) := ⟨by omega⟩
  have h60 : ¬ (60 : Int) < (words : Int) := by omega
  have h60' : ¬ 60 < words := by omega
  have d1 : decide ((60 : Int) < (words : Int)) = false := decide_eq_false h60
  have d1' : decide (60 < words) = false := decide_eq_false h60'
  clear hr hro hx hm hf hc hd hl ht hok hfew hu h1
  go_enter Try.func11, Try.ntmps11
  go_wp2_with (first
    | (go_at_call 30; refine S0.out.mlive.mono ?_; rintro e w1 ⟨rfl, h⟩; have S1 := Aside0.mk h; clear h)
    | (go_at_call 36; refine (St.few S1.out HR.out HX.out HC.out HO.out HM.out HD.out HL.out).mono ?_; rintro e w2 ⟨rfl, h⟩; rw [HFB.out]; have S2 := Aside0.mk h; clear h)
    | (go_at_call 31; refine (S2.out.mnew (n := words) (c := c) HW1.out HW2.out (below_C HR.out S2.out.below) HX.out HN.out).mono ?_; rintro e w3 ⟨b, rfl, h⟩; have S3 := Aside0.mk h; clear h)
    | (go_at_call 40; refine (rnew_calls (c := c) HW1.out HW2.out (below_C HR.out S3.out.below) HX.out HN.out).mono ?_; rintro e w4 ⟨r, rfl, h⟩; have S4 := Aside0.mk (S3.out.frame h).sw1; clear h))
  go_loopw [58] (fun v58 wr => ∃ (k : Nat) (s : MS), v58 = .int .i64 k ∧ Aside0 (k ≤ m) ∧ Aside0 (DR w wr b r words k s)) (fun v58 _ => m - (intOf v58).toNat)
  case atStart => exact ⟨0, _, rfl, ⟨Nat.zero_le _⟩, ⟨⟨O0.out, by simp, W0.out, S4.out⟩⟩⟩
  case round =>
    obtain ⟨k, s, rfl, HK, HDD⟩ := hrel
    obtain ⟨kok, klen, k64, kst⟩ := HDD.out
    clear S1 S2 S3 S4
    by_cases hkk : k < m
    · have hkx : k < ops.length := by have := HM.out; omega
      obtain ⟨ad, A3, c3, ea, x0, x1, x2, x3, hl3, hi3⟩ := at_T64 HO.out (k : Int) (by omega) (by omega)
      have hrd : rd_T64 ops (k : Int) = ops[k] := by simp [rd_T64, hkx]
      rw [hrd] at x0 x1 x2 x3 hl3 hi3
      rw [Int.toNat_natCast] at x0 x1 x2 x3
      have hoo := HOK.out ops[k] (List.getElem_mem hkx)
      have huu := HU.out ops[k] (List.getElem_mem hkx)
      generalize ops[k] = o at *
      obtain ⟨kd, a, u, os⟩ := o
      simp only at x0 x1 x2 x3 hl3 hi3 huu
      have g0 := hoo.kind.1
      have g1 := hoo.kind.2
      simp only at g0 g1
      subst ea
      obtain ⟨n3, hn3⟩ : ∃ n3, os.length = n3 := ⟨_, rfl⟩
      rw [hn3] at x3 hl3 hi3
      have x0 := pw_cell_below kst.below x0
      have x1 := pw_cell_below kst.below x1
      have x2 := pw_cell_below kst.below x2
      have x3 := pw_cell_below kst.below x3
      obtain ⟨Bo, hBo⟩ : ∃ Bo : Obj, Bo = .cells #[.int .u8 kd, .int .i64 a, .int .u64 u, .slice A3 n3 c3] 64 := ⟨_, rfl⟩
      obtain ⟨s', v, f, hdo⟩ : ∃ s' v f, doM s kd a u os = (s', v, f) := ⟨_, _, _, rfl⟩
      have S4 : Aside0 (St w (wr.alloc Bo) [MemA b s, RmA r s, BlkA wr.heap.size Bo]) := ⟨(kst.box Bo).sw2_⟩
      have HBo := Aside0.mk hBo
      have HDO := Aside0.mk (St.doAny (c := c3) S4.out kok (by omega) ⟨g0, g1⟩ (Kd.C_below hi3 S4.out.below) hn3 hdo)
      unfold opV at HDO
      have hK' : OkM s' (k + 1) := by have := kok.op (kd := kd) (a := a) (u := u) (xs := os) hoo.tick; rw [hdo] at this; exact this
      have hL' : s'.ws.length = words := by have := doM_len s kd a u os; rw [hdo] at this; exact this.trans klen
      have hW' : ∀ x ∈ s'.ws, W64 x := by have := doM_W64 (kd := kd) (a := a) (xs := os) k64 huu; rw [hdo] at this; exact this
      have hways := doM_ways s kd a u os
      rw [hdo] at hways
      have K' := Aside0.mk hK'
      have L' := Aside0.mk hL'
      have W' := Aside0.mk hW'
      have KOK := Aside0.mk kok
      have KLEN : Aside0 (1 ≤ s.ws.length) := ⟨by rw [klen]; exact HW1.out⟩
      have K64 := Aside0.mk k64
      have HI3 := Aside0.mk hi3
      have HN3 := Aside0.mk hn3
      have KB : Aside0 (k ≤ 100000) := ⟨by omega⟩
      have KB1 : Aside0 (k + 1 ≤ 100000) := ⟨by omega⟩
      have KK := Aside0.mk hkk
      obtain ⟨tk1, htk1⟩ : ∃ x, s'.tk = x := ⟨_, rfl⟩
      obtain ⟨ah1, hah1⟩ : ∃ x, s'.ah + s'.tk = x := ⟨_, rfl⟩
      obtain ⟨ws1, hws1⟩ : ∃ x, s'.ws = x := ⟨_, rfl⟩
      have HTK1 := Aside0.mk htk1
      have HAH1 := Aside0.mk hah1
      have HWS1 := Aside0.mk hws1
      have HLW : Aside0 (ws1.length = words) := ⟨by rw [← hws1]; exact hL'⟩
      clear hrd hkx hi3 hoo huu hdo hK' hL' hW' kok klen k64 kst hn3 htk1 hah1 hws1
      obtain ⟨wo, rfl⟩ : ∃ wo : World, wo = wr := ⟨_, rfl⟩
      subst hBo
      rcases hways with ⟨q1, q2, q3⟩ | ⟨q1, q2, q3⟩ | ⟨q1, q2, q3⟩ | ⟨q1, q2, q3⟩ | ⟨q0, q1, q2, q3⟩ | ⟨q0, q1, q2, q3⟩
      · obtain ⟨rfl, rfl, rfl⟩ : s' = _ ∧ v = _ ∧ f = _ := by
          injection q3 with e1 e2
          injection e2 with e2 e3
          exact ⟨e1, e2, e3⟩
        have d2a : (kd % 4 == 2) = false := beq_eq_false_iff_ne.2 (by omega)
        have d3a : (kd % 4 == 3) = true := beq_iff_eq.2 q1
        have Q2 : Aside0 (n3 ≤ 1024) := ⟨by have := HN3.out; omega⟩
        clear q1 q2 q3
        go_wp2_with (first
          | (go_at_call 38; have t_ := U6.out; clear t_; refine (St.sameW U6.out.sw2 U6.out HLW.out HW3.out).mono ?_; rintro e w9 ⟨rfl, h⟩; have U7 := Aside0.mk h; clear h)
          | (go_at_call 47; have t_ := U5.out; clear t_; refine (rwords_calls (n := words) U5.out.sw2 HWS1.out HLW.out HW3.out).mono ?_; rintro e w8 ⟨A8, c8, rfl, h⟩; have U6 := Aside0.mk h; clear h)
          | (go_at_call 39; have t_ := U4.out; clear t_; refine (St.wordsE (n := words) U4.out.sw1 K'.out HWS1.out HLW.out).mono ?_; rintro e w7 ⟨A7, c7, rfl, h⟩; have U5 := Aside0.mk h; clear h)
          | (go_at_call 46; have t_ := U3.out; clear t_; refine (rall_calls U3.out K'.out KB1.out HAH1.out).mono ?_; rintro e w7 ⟨rfl, h⟩; have U4 := Aside0.mk h; clear h)
          | (go_at_call 35; have t_ := U2.out; clear t_; refine (St.allE U2.out.sw1 K'.out KB1.out HAH1.out).mono ?_; rintro e w7 ⟨rfl, h⟩; have U3 := Aside0.mk h.sw1; clear h)
          | (go_at_call 45; have t_ := U1.out; clear t_; refine (rticks_calls U1.out HTK1.out).mono ?_; rintro e w7 ⟨rfl, hw⟩; obtain rfl := hw.symm; have U2 := U1)
          | (go_at_call 44; have t_ := S6.out; clear t_; refine (St.ticksE S6.out.sw1 HTK1.out).mono ?_; rintro e w7 ⟨rfl, hw⟩; obtain rfl := hw.symm; have U1 := S6)
          | (go_at_call 42; refine (rnext_calls (c := c3) S5.out KOK.out KB.out K64.out HI3.out HN3.out Q2.out).mono ?_; rintro e w6 ⟨rfl, h⟩; have S6 := Aside0.mk h; clear h)
          | (go_at_call 37; refine HDO.out.mono ?_; rintro e w5 ⟨rfl, h⟩; have q := h.sw2.blk; have z0 : w5.cell? ⟨wo.heap.size, 0, none⟩ = some (.int .u8 kd) := cell_of_block q 0; have z1 : w5.cell? ⟨wo.heap.size, 1, none⟩ = some (.int .i64 a) := cell_of_block q 1; have z2 : w5.cell? ⟨wo.heap.size, 2, none⟩ = some (.int .u64 u) := cell_of_block q 2; have z3 : w5.cell? ⟨wo.heap.size, 3, none⟩ = some (.slice A3 n3 c3) := cell_of_block q 3; clear q; have S5 := Aside0.mk h.sw1; clear h))
        obtain ⟨r7, rfl⟩ := U7.out.wform HLW.out 0 (by have := HW1.out; omega)
        clear U1 U2 U3 U4 U5 U6 S6 S5 S4
        go_loopw [123] (fun v123 wq => ∃ (i : Nat) (ws2 : List Int), v123 = .int .i64 i ∧ Aside0 (i ≤ words) ∧ Aside0 (ws2.length = words) ∧ Aside0 (St w wq [WoA (.slice (some ⟨r7, 0, none⟩) words c7) ws2, WoA (.slice A8 words c8) ws1, RmA r (nextM s os), MemA b (nextM s os), BlkA wo.heap.size (.cells #[.int .u8 kd, .int .i64 a, .int .u64 u, .slice A3 n3 c3] 64)])) (fun v123 _ => words - (intOf v123).toNat)
        case atStart => exact ⟨0, ws1, rfl, ⟨Nat.zero_le _⟩, HLW, U7⟩
        case round =>
          obtain ⟨i, ws2, rfl, HI, HL2, SS⟩ := hrel
          clear U7
          by_cases hii : i < words
          · have hat := SS.out.wat HL2.out i hii
            have y1 := hat.1
            have y2 := hat.2.1
            have Y3 := Aside0.mk hat.2.2
            have KI := Aside0.mk hii
            clear hat SS
            go_wp2
            go_roundw
            case rel => exact ⟨i + 1, ws2.set i _, by go_num, KI, ⟨by rw [List.length_set]; exact HL2.out⟩, ⟨Y3.out _⟩⟩
            case measure => simp [intOf]; omega
          · have S9 := Aside0.mk SS.out.drop.drop.sw2.drop.sw1
            clear SS
            go_wp2
            go_roundw
            case rel => exact ⟨k + 1, (nextM s os), by go_num, KK, ⟨⟨K'.out, L'.out, W'.out, S9.out⟩⟩⟩
            case measure => simp [intOf]; omega
      · obtain ⟨rfl, rfl, rfl⟩ : s' = _ ∧ v = _ ∧ f = _ := by
          injection q3 with e1 e2
          injection e2 with e2 e3
          exact ⟨e1, e2, e3⟩
        have d2a : (kd % 4 == 2) = false := beq_eq_false_iff_ne.2 (by omega)
        have d3a : (kd % 4 == 3) = true := beq_iff_eq.2 q1
        have Q2 : Aside0 (1024 < n3) := ⟨by have := HN3.out; omega⟩
        clear q1 q2 q3
        go_wp2_with (first
          | (go_at_call 38; have t_ := U6.out; clear t_; refine (St.sameW U6.out.sw2 U6.out HLW.out HW3.out).mono ?_; rintro e w9 ⟨rfl, h⟩; have U7 := Aside0.mk h; clear h)
          | (go_at_call 47; have t_ := U5.out; clear t_; refine (rwords_calls (n := words) U5.out.sw2 HWS1.out HLW.out HW3.out).mono ?_; rintro e w8 ⟨A8, c8, rfl, h⟩; have U6 := Aside0.mk h; clear h)
          | (go_at_call 39; have t_ := U4.out; clear t_; refine (St.wordsE (n := words) U4.out.sw1 K'.out HWS1.out HLW.out).mono ?_; rintro e w7 ⟨A7, c7, rfl, h⟩; have U5 := Aside0.mk h; clear h)
          | (go_at_call 46; have t_ := U3.out; clear t_; refine (rall_calls U3.out K'.out KB1.out HAH1.out).mono ?_; rintro e w7 ⟨rfl, h⟩; have U4 := Aside0.mk h; clear h)
          | (go_at_call 35; have t_ := U2.out; clear t_; refine (St.allE U2.out.sw1 K'.out KB1.out HAH1.out).mono ?_; rintro e w7 ⟨rfl, h⟩; have U3 := Aside0.mk h.sw1; clear h)
          | (go_at_call 45; have t_ := U1.out; clear t_; refine (rticks_calls U1.out HTK1.out).mono ?_; rintro e w7 ⟨rfl, hw⟩; obtain rfl := hw.symm; have U2 := U1)
          | (go_at_call 44; have t_ := S6.out; clear t_; refine (St.ticksE S6.out.sw1 HTK1.out).mono ?_; rintro e w7 ⟨rfl, hw⟩; obtain rfl := hw.symm; have U1 := S6)
          | (go_at_call 42; refine (rnextOut_calls Q2.out).mono ?_; rintro e w6 ⟨rfl, hw⟩; obtain rfl := hw.symm; have S6 := S5)
          | (go_at_call 37; refine HDO.out.mono ?_; rintro e w5 ⟨rfl, h⟩; have q := h.sw2.blk; have z0 : w5.cell? ⟨wo.heap.size, 0, none⟩ = some (.int .u8 kd) := cell_of_block q 0; have z1 : w5.cell? ⟨wo.heap.size, 1, none⟩ = some (.int .i64 a) := cell_of_block q 1; have z2 : w5.cell? ⟨wo.heap.size, 2, none⟩ = some (.int .u64 u) := cell_of_block q 2; have z3 : w5.cell? ⟨wo.heap.size, 3, none⟩ = some (.slice A3 n3 c3) := cell_of_block q 3; clear q; have S5 := Aside0.mk h.sw1; clear h))
        obtain ⟨r7, rfl⟩ := U7.out.wform HLW.out 0 (by have := HW1.out; omega)
        clear U1 U2 U3 U4 U5 U6 S6 S5 S4
        go_loopw [123] (fun v123 wq => ∃ (i : Nat) (ws2 : List Int), v123 = .int .i64 i ∧ Aside0 (i ≤ words) ∧ Aside0 (ws2.length = words) ∧ Aside0 (St w wq [WoA (.slice (some ⟨r7, 0, none⟩) words c7) ws2, WoA (.slice A8 words c8) ws1, RmA r s', MemA b s', BlkA wo.heap.size (.cells #[.int .u8 kd, .int .i64 a, .int .u64 u, .slice A3 n3 c3] 64)])) (fun v123 _ => words - (intOf v123).toNat)
        case atStart => exact ⟨0, ws1, rfl, ⟨Nat.zero_le _⟩, HLW, U7⟩
        case round =>
          obtain ⟨i, ws2, rfl, HI, HL2, SS⟩ := hrel
          clear U7
          by_cases hii : i < words
          · have hat := SS.out.wat HL2.out i hii
            have y1 := hat.1
            have y2 := hat.2.1
            have Y3 := Aside0.mk hat.2.2
            have KI := Aside0.mk hii
            clear hat SS
            go_wp2
            go_roundw
            case rel => exact ⟨i + 1, ws2.set i _, by go_num, KI, ⟨by rw [List.length_set]; exact HL2.out⟩, ⟨Y3.out _⟩⟩
            case measure => simp [intOf]; omega
          · have S9 := Aside0.mk SS.out.drop.drop.sw2.drop.sw1
            clear SS
            go_wp2
            go_roundw
            case rel => exact ⟨k + 1, s', by go_num, KK, ⟨⟨K'.out, L'.out, W'.out, S9.out⟩⟩⟩
            case measure => simp [intOf]; omega
      · obtain ⟨rfl, rfl, rfl⟩ : s' = _ ∧ v = _ ∧ f = _ := by
          injection q3 with e1 e2
          injection e2 with e2 e3
          exact ⟨e1, e2, e3⟩
        have d2a : (kd % 4 == 2) = true := beq_iff_eq.2 q1
        have Q2 := Aside0.mk q2
        clear q1 q2 q3
        go_wp2_with (first
          | (go_at_call 38; have t_ := U6.out; clear t_; refine (St.sameW U6.out.sw2 U6.out HLW.out HW3.out).mono ?_; rintro e w9 ⟨rfl, h⟩; have U7 := Aside0.mk h; clear h)
          | (go_at_call 47; have t_ := U5.out; clear t_; refine (rwords_calls (n := words) U5.out.sw2 HWS1.out HLW.out HW3.out).mono ?_; rintro e w8 ⟨A8, c8, rfl, h⟩; have U6 := Aside0.mk h; clear h)
          | (go_at_call 39; have t_ := U4.out; clear t_; refine (St.wordsE (n := words) U4.out.sw1 K'.out HWS1.out HLW.out).mono ?_; rintro e w7 ⟨A7, c7, rfl, h⟩; have U5 := Aside0.mk h; clear h)
          | (go_at_call 46; have t_ := U3.out; clear t_; refine (rall_calls U3.out K'.out KB1.out HAH1.out).mono ?_; rintro e w7 ⟨rfl, h⟩; have U4 := Aside0.mk h; clear h)
          | (go_at_call 35; have t_ := U2.out; clear t_; refine (St.allE U2.out.sw1 K'.out KB1.out HAH1.out).mono ?_; rintro e w7 ⟨rfl, h⟩; have U3 := Aside0.mk h.sw1; clear h)
          | (go_at_call 45; have t_ := U1.out; clear t_; refine (rticks_calls U1.out HTK1.out).mono ?_; rintro e w7 ⟨rfl, hw⟩; obtain rfl := hw.symm; have U2 := U1)
          | (go_at_call 44; have t_ := S6.out; clear t_; refine (St.ticksE S6.out.sw1 HTK1.out).mono ?_; rintro e w7 ⟨rfl, hw⟩; obtain rfl := hw.symm; have U1 := S6)
          | (go_at_call 41; refine (rstore_calls S5.out KOK.out KB.out KLEN.out K64.out Q2.out).mono ?_; rintro e w6 ⟨rfl, h⟩; have S6 := Aside0.mk h; clear h)
          | (go_at_call 37; refine HDO.out.mono ?_; rintro e w5 ⟨rfl, h⟩; have q := h.sw2.blk; have z0 : w5.cell? ⟨wo.heap.size, 0, none⟩ = some (.int .u8 kd) := cell_of_block q 0; have z1 : w5.cell? ⟨wo.heap.size, 1, none⟩ = some (.int .i64 a) := cell_of_block q 1; have z2 : w5.cell? ⟨wo.heap.size, 2, none⟩ = some (.int .u64 u) := cell_of_block q 2; have z3 : w5.cell? ⟨wo.heap.size, 3, none⟩ = some (.slice A3 n3 c3) := cell_of_block q 3; clear q; have S5 := Aside0.mk h.sw1; clear h))
        obtain ⟨r7, rfl⟩ := U7.out.wform HLW.out 0 (by have := HW1.out; omega)
        clear U1 U2 U3 U4 U5 U6 S6 S5 S4
        go_loopw [123] (fun v123 wq => ∃ (i : Nat) (ws2 : List Int), v123 = .int .i64 i ∧ Aside0 (i ≤ words) ∧ Aside0 (ws2.length = words) ∧ Aside0 (St w wq [WoA (.slice (some ⟨r7, 0, none⟩) words c7) ws2, WoA (.slice A8 words c8) ws1, RmA r (setM (accM s) a u), MemA b (setM (accM s) a u), BlkA wo.heap.size (.cells #[.int .u8 kd, .int .i64 a, .int .u64 u, .slice A3 n3 c3] 64)])) (fun v123 _ => words - (intOf v123).toNat)
        case atStart => exact ⟨0, ws1, rfl, ⟨Nat.zero_le _⟩, HLW, U7⟩
        case round =>
          obtain ⟨i, ws2, rfl, HI, HL2, SS⟩ := hrel
          clear U7
          by_cases hii : i < words
          · have hat := SS.out.wat HL2.out i hii
            have y1 := hat.1
            have y2 := hat.2.1
            have Y3 := Aside0.mk hat.2.2
            have KI := Aside0.mk hii
            clear hat SS
            go_wp2
            go_roundw
            case rel => exact ⟨i + 1, ws2.set i _, by go_num, KI, ⟨by rw [List.length_set]; exact HL2.out⟩, ⟨Y3.out _⟩⟩
            case measure => simp [intOf]; omega
          · have S9 := Aside0.mk SS.out.drop.drop.sw2.drop.sw1
            clear SS
            go_wp2
            go_roundw
            case rel => exact ⟨k + 1, (setM (accM s) a u), by go_num, KK, ⟨⟨K'.out, L'.out, W'.out, S9.out⟩⟩⟩
            case measure => simp [intOf]; omega
      · obtain ⟨rfl, rfl, rfl⟩ : s' = _ ∧ v = _ ∧ f = _ := by
          injection q3 with e1 e2
          injection e2 with e2 e3
          exact ⟨e1, e2, e3⟩
        have d2a : (kd % 4 == 2) = true := beq_iff_eq.2 q1
        have Q2 := Aside0.mk q2
        clear q1 q2 q3
        go_wp2_with (first
          | (go_at_call 38; have t_ := U6.out; clear t_; refine (St.sameW U6.out.sw2 U6.out HLW.out HW3.out).mono ?_; rintro e w9 ⟨rfl, h⟩; have U7 := Aside0.mk h; clear h)
          | (go_at_call 47; have t_ := U5.out; clear t_; refine (rwords_calls (n := words) U5.out.sw2 HWS1.out HLW.out HW3.out).mono ?_; rintro e w8 ⟨A8, c8, rfl, h⟩; have U6 := Aside0.mk h; clear h)
          | (go_at_call 39; have t_ := U4.out; clear t_; refine (St.wordsE (n := words) U4.out.sw1 K'.out HWS1.out HLW.out).mono ?_; rintro e w7 ⟨A7, c7, rfl, h⟩; have U5 := Aside0.mk h; clear h)
          | (go_at_call 46; have t_ := U3.out; clear t_; refine (rall_calls U3.out K'.out KB1.out HAH1.out).mono ?_; rintro e w7 ⟨rfl, h⟩; have U4 := Aside0.mk h; clear h)
          | (go_at_call 35; have t_ := U2.out; clear t_; refine (St.allE U2.out.sw1 K'.out KB1.out HAH1.out).mono ?_; rintro e w7 ⟨rfl, h⟩; have U3 := Aside0.mk h.sw1; clear h)
          | (go_at_call 45; have t_ := U1.out; clear t_; refine (rticks_calls U1.out HTK1.out).mono ?_; rintro e w7 ⟨rfl, hw⟩; obtain rfl := hw.symm; have U2 := U1)
          | (go_at_call 44; have t_ := S6.out; clear t_; refine (St.ticksE S6.out.sw1 HTK1.out).mono ?_; rintro e w7 ⟨rfl, hw⟩; obtain rfl := hw.symm; have U1 := S6)
          | (go_at_call 41; refine (rstoreOut_calls S5.out KOK.out KLEN.out Q2.out).mono ?_; rintro e w6 ⟨rfl, hw⟩; obtain rfl := hw.symm; have S6 := S5)
          | (go_at_call 37; refine HDO.out.mono ?_; rintro e w5 ⟨rfl, h⟩; have q := h.sw2.blk; have z0 : w5.cell? ⟨wo.heap.size, 0, none⟩ = some (.int .u8 kd) := cell_of_block q 0; have z1 : w5.cell? ⟨wo.heap.size, 1, none⟩ = some (.int .i64 a) := cell_of_block q 1; have z2 : w5.cell? ⟨wo.heap.size, 2, none⟩ = some (.int .u64 u) := cell_of_block q 2; have z3 : w5.cell? ⟨wo.heap.size, 3, none⟩ = some (.slice A3 n3 c3) := cell_of_block q 3; clear q; have S5 := Aside0.mk h.sw1; clear h))
        obtain ⟨r7, rfl⟩ := U7.out.wform HLW.out 0 (by have := HW1.out; omega)
        clear U1 U2 U3 U4 U5 U6 S6 S5 S4
        go_loopw [123] (fun v123 wq => ∃ (i : Nat) (ws2 : List Int), v123 = .int .i64 i ∧ Aside0 (i ≤ words) ∧ Aside0 (ws2.length = words) ∧ Aside0 (St w wq [WoA (.slice (some ⟨r7, 0, none⟩) words c7) ws2, WoA (.slice A8 words c8) ws1, RmA r s', MemA b s', BlkA wo.heap.size (.cells #[.int .u8 kd, .int .i64 a, .int .u64 u, .slice A3 n3 c3] 64)])) (fun v123 _ => words - (intOf v123).toNat)
        case atStart => exact ⟨0, ws1, rfl, ⟨Nat.zero_le _⟩, HLW, U7⟩
        case round =>
          obtain ⟨i, ws2, rfl, HI, HL2, SS⟩ := hrel
          clear U7
          by_cases hii : i < words
          · have hat := SS.out.wat HL2.out i hii
            have y1 := hat.1
            have y2 := hat.2.1
            have Y3 := Aside0.mk hat.2.2
            have KI := Aside0.mk hii
            clear hat SS
            go_wp2
            go_roundw
            case rel => exact ⟨i + 1, ws2.set i _, by go_num, KI, ⟨by rw [List.length_set]; exact HL2.out⟩, ⟨Y3.out _⟩⟩
            case measure => simp [intOf]; omega
          · have S9 := Aside0.mk SS.out.drop.drop.sw2.drop.sw1
            clear SS
            go_wp2
            go_roundw
            case rel => exact ⟨k + 1, s', by go_num, KK, ⟨⟨K'.out, L'.out, W'.out, S9.out⟩⟩⟩
            case measure => simp [intOf]; omega
      · obtain ⟨rfl, rfl, rfl⟩ : s' = _ ∧ v = _ ∧ f = _ := by
          injection q3 with e1 e2
          injection e2 with e2 e3
          exact ⟨e1, e2, e3⟩
        have d2a : (kd % 4 == 2) = false := beq_eq_false_iff_ne.2 q0
        have d3a : (kd % 4 == 3) = false := beq_eq_false_iff_ne.2 q1
        have Q2 := Aside0.mk q2
        clear q1 q2 q3
        go_wp2_with (first
          | (go_at_call 38; have t_ := U6.out; clear t_; refine (St.sameW U6.out.sw2 U6.out HLW.out HW3.out).mono ?_; rintro e w9 ⟨rfl, h⟩; have U7 := Aside0.mk h; clear h)
          | (go_at_call 47; have t_ := U5.out; clear t_; refine (rwords_calls (n := words) U5.out.sw2 HWS1.out HLW.out HW3.out).mono ?_; rintro e w8 ⟨A8, c8, rfl, h⟩; have U6 := Aside0.mk h; clear h)
          | (go_at_call 39; have t_ := U4.out; clear t_; refine (St.wordsE (n := words) U4.out.sw1 K'.out HWS1.out HLW.out).mono ?_; rintro e w7 ⟨A7, c7, rfl, h⟩; have U5 := Aside0.mk h; clear h)
          | (go_at_call 46; have t_ := U3.out; clear t_; refine (rall_calls U3.out K'.out KB1.out HAH1.out).mono ?_; rintro e w7 ⟨rfl, h⟩; have U4 := Aside0.mk h; clear h)
          | (go_at_call 35; have t_ := U2.out; clear t_; refine (St.allE U2.out.sw1 K'.out KB1.out HAH1.out).mono ?_; rintro e w7 ⟨rfl, h⟩; have U3 := Aside0.mk h.sw1; clear h)
          | (go_at_call 45; have t_ := U1.out; clear t_; refine (rticks_calls U1.out HTK1.out).mono ?_; rintro e w7 ⟨rfl, hw⟩; obtain rfl := hw.symm; have U2 := U1)
          | (go_at_call 44; have t_ := S6.out; clear t_; refine (St.ticksE S6.out.sw1 HTK1.out).mono ?_; rintro e w7 ⟨rfl, hw⟩; obtain rfl := hw.symm; have U1 := S6)
          | (go_at_call 43; refine (rload_calls S5.out KOK.out KB.out KLEN.out K64.out Q2.out).mono ?_; rintro e w6 ⟨rfl, h⟩; have S6 := Aside0.mk h; clear h)
          | (go_at_call 37; refine HDO.out.mono ?_; rintro e w5 ⟨rfl, h⟩; have q := h.sw2.blk; have z0 : w5.cell? ⟨wo.heap.size, 0, none⟩ = some (.int .u8 kd) := cell_of_block q 0; have z1 : w5.cell? ⟨wo.heap.size, 1, none⟩ = some (.int .i64 a) := cell_of_block q 1; have z2 : w5.cell? ⟨wo.heap.size, 2, none⟩ = some (.int .u64 u) := cell_of_block q 2; have z3 : w5.cell? ⟨wo.heap.size, 3, none⟩ = some (.slice A3 n3 c3) := cell_of_block q 3; clear q; have S5 := Aside0.mk h.sw1; clear h))
        obtain ⟨r7, rfl⟩ := U7.out.wform HLW.out 0 (by have := HW1.out; omega)
        clear U1 U2 U3 U4 U5 U6 S6 S5 S4
        go_loopw [123] (fun v123 wq => ∃ (i : Nat) (ws2 : List Int), v123 = .int .i64 i ∧ Aside0 (i ≤ words) ∧ Aside0 (ws2.length = words) ∧ Aside0 (St w wq [WoA (.slice (some ⟨r7, 0, none⟩) words c7) ws2, WoA (.slice A8 words c8) ws1, RmA r (accM s), MemA b (accM s), BlkA wo.heap.size (.cells #[.int .u8 kd, .int .i64 a, .int .u64 u, .slice A3 n3 c3] 64)])) (fun v123 _ => words - (intOf v123).toNat)
        case atStart => exact ⟨0, ws1, rfl, ⟨Nat.zero_le _⟩, HLW, U7⟩
        case round =>
          obtain ⟨i, ws2, rfl, HI, HL2, SS⟩ := hrel
          clear U7
          by_cases hii : i < words
          · have hat := SS.out.wat HL2.out i hii
            have y1 := hat.1
            have y2 := hat.2.1
            have Y3 := Aside0.mk hat.2.2
            have KI := Aside0.mk hii
            clear hat SS
            go_wp2
            go_roundw
            case rel => exact ⟨i + 1, ws2.set i _, by go_num, KI, ⟨by rw [List.length_set]; exact HL2.out⟩, ⟨Y3.out _⟩⟩
            case measure => simp [intOf]; omega
          · have S9 := Aside0.mk SS.out.drop.drop.sw2.drop.sw1
            clear SS
            go_wp2
            go_roundw
            case rel => exact ⟨k + 1, (accM s), by go_num, KK, ⟨⟨K'.out, L'.out, W'.out, S9.out⟩⟩⟩
            case measure => simp [intOf]; omega
      · obtain ⟨rfl, rfl, rfl⟩ : s' = _ ∧ v = _ ∧ f = _ := by
          injection q3 with e1 e2
          injection e2 with e2 e3
          exact ⟨e1, e2, e3⟩
        have d2a : (kd % 4 == 2) = false := beq_eq_false_iff_ne.2 q0
        have d3a : (kd % 4 == 3) = false := beq_eq_false_iff_ne.2 q1
        have Q2 := Aside0.mk q2
        clear q1 q2 q3
        go_wp2_with (first
          | (go_at_call 38; have t_ := U6.out; clear t_; refine (St.sameW U6.out.sw2 U6.out HLW.out HW3.out).mono ?_; rintro e w9 ⟨rfl, h⟩; have U7 := Aside0.mk h; clear h)
          | (go_at_call 47; have t_ := U5.out; clear t_; refine (rwords_calls (n := words) U5.out.sw2 HWS1.out HLW.out HW3.out).mono ?_; rintro e w8 ⟨A8, c8, rfl, h⟩; have U6 := Aside0.mk h; clear h)
          | (go_at_call 39; have t_ := U4.out; clear t_; refine (St.wordsE (n := words) U4.out.sw1 K'.out HWS1.out HLW.out).mono ?_; rintro e w7 ⟨A7, c7, rfl, h⟩; have U5 := Aside0.mk h; clear h)
          | (go_at_call 46; have t_ := U3.out; clear t_; refine (rall_calls U3.out K'.out KB1.out HAH1.out).mono ?_; rintro e w7 ⟨rfl, h⟩; have U4 := Aside0.mk h; clear h)
          | (go_at_call 35; have t_ := U2.out; clear t_; refine (St.allE U2.out.sw1 K'.out KB1.out HAH1.out).mono ?_; rintro e w7 ⟨rfl, h⟩; have U3 := Aside0.mk h.sw1; clear h)
          | (go_at_call 45; have t_ := U1.out; clear t_; refine (rticks_calls U1.out HTK1.out).mono ?_; rintro e w7 ⟨rfl, hw⟩; obtain rfl := hw.symm; have U2 := U1)
          | (go_at_call 44; have t_ := S6.out; clear t_; refine (St.ticksE S6.out.sw1 HTK1.out).mono ?_; rintro e w7 ⟨rfl, hw⟩; obtain rfl := hw.symm; have U1 := S6)
          | (go_at_call 43; refine (rloadOut_calls S5.out KOK.out KLEN.out Q2.out).mono ?_; rintro e w6 ⟨rfl, hw⟩; obtain rfl := hw.symm; have S6 := S5)
          | (go_at_call 37; refine HDO.out.mono ?_; rintro e w5 ⟨rfl, h⟩; have q := h.sw2.blk; have z0 : w5.cell? ⟨wo.heap.size, 0, none⟩ = some (.int .u8 kd) := cell_of_block q 0; have z1 : w5.cell? ⟨wo.heap.size, 1, none⟩ = some (.int .i64 a) := cell_of_block q 1; have z2 : w5.cell? ⟨wo.heap.size, 2, none⟩ = some (.int .u64 u) := cell_of_block q 2; have z3 : w5.cell? ⟨wo.heap.size, 3, none⟩ = some (.slice A3 n3 c3) := cell_of_block q 3; clear q; have S5 := Aside0.mk h.sw1; clear h))
        obtain ⟨r7, rfl⟩ := U7.out.wform HLW.out 0 (by have := HW1.out; omega)
        clear U1 U2 U3 U4 U5 U6 S6 S5 S4
        go_loopw [123] (fun v123 wq => ∃ (i : Nat) (ws2 : List Int), v123 = .int .i64 i ∧ Aside0 (i ≤ words) ∧ Aside0 (ws2.length = words) ∧ Aside0 (St w wq [WoA (.slice (some ⟨r7, 0, none⟩) words c7) ws2, WoA (.slice A8 words c8) ws1, RmA r s', MemA b s', BlkA wo.heap.size (.cells #[.int .u8 kd, .int .i64 a, .int .u64 u, .slice A3 n3 c3] 64)])) (fun v123 _ => words - (intOf v123).toNat)
        case atStart => exact ⟨0, ws1, rfl, ⟨Nat.zero_le _⟩, HLW, U7⟩
        case round =>
          obtain ⟨i, ws2, rfl, HI, HL2, SS⟩ := hrel
          clear U7
          by_cases hii : i < words
          · have hat := SS.out.wat HL2.out i hii
            have y1 := hat.1
            have y2 := hat.2.1
            have Y3 := Aside0.mk hat.2.2
            have KI := Aside0.mk hii
            clear hat SS
            go_wp2
            go_roundw
            case rel => exact ⟨i + 1, ws2.set i _, by go_num, KI, ⟨by rw [List.length_set]; exact HL2.out⟩, ⟨Y3.out _⟩⟩
            case measure => simp [intOf]; omega
          · have S9 := Aside0.mk SS.out.drop.drop.sw2.drop.sw1
            clear SS
            go_wp2
            go_roundw
            case rel => exact ⟨k + 1, s', by go_num, KK, ⟨⟨K'.out, L'.out, W'.out, S9.out⟩⟩⟩
            case measure => simp [intOf]; omega
    · have KS := Aside0.mk kst
      have KOK := Aside0.mk kok
      obtain ⟨ws, hws⟩ : ∃ ws, s.ws = ws := ⟨_, rfl⟩
      rw [hws] at klen
      have HWS := Aside0.mk hws
      have HLN := Aside0.mk klen
      clear kok klen k64 kst hws
      go_wp2_with (first
        | (go_at_call 38; refine (St.sameW S8.out.sw2 S8.out HLN.out HW3.out).mono ?_; rintro e w9 ⟨rfl, h⟩; have S9 := Aside0.mk h; clear h)
        | (go_at_call 47; refine (rwords_calls (n := words) S7.out.sw2 HWS.out HLN.out HW3.out).mono ?_; rintro e w8 ⟨A8, c8, rfl, h⟩; have S8 := Aside0.mk h; clear h)
        | (go_at_call 39; refine (St.wordsE (n := words) KS.out KOK.out HWS.out HLN.out).mono ?_; rintro e w7 ⟨A7, c7, rfl, h⟩; have S7 := Aside0.mk h; clear h))
      go_ret
      exact ⟨rfl, S9.out.below⟩
theorem mdoes_all {words : Int} {n m c d : Nat} {A B : Option Addr} {xs : List S31} {ops : List S64} {w : World} (hr : Kd.C k31 w A n xs) (hx : xs.length = n) (hc : n ≤ c) (hro : Kd.C k64 w B m ops) (hm : ops.length = m) (hd : m ≤ d) (hl : m ≤ 9223372036854775807)
    (ht : ∀ x ∈ xs, x.f3 ≤ 9223372036854775807) (hok : ∀ o ∈ ops, OpOk o) (hu : ∀ o ∈ ops, W64 o.f2) :
    Calls Try.prog 11 #[.int .i64 words, .slice A n c, .slice B m d] w fun e w' => e = .returned (.bool true) ∧ Below w.heap.size w w' := by
  by_cases h60 : 60 < words
  · cases hf : fewB 60 n ops with
    | false => exact mdoes_many1 hr hx hc hro hm hd hl h60 hf
    | true =>
      by_cases h16 : words ≤ 16384
      · exact mdoes_skip hr hx hc hro hm hd hl h60 h16 hf
      · exact mdoes_big hr hx hc hro hm hd hl h60 h16 hf
  · cases hf : fewB words n ops with
    | false => exact mdoes_many0 hr hx hc hro hm hd hl h60 hf
    | true =>
      by_cases h1 : words < 1
      · exact mdoes_low hr hx hc hro hm hd hl h60 h1 hf
      · obtain ⟨k, rfl⟩ : ∃ k : Nat, words = k := ⟨words.toNat, by omega⟩
        exact mdoes_walk hr hx hc hro hm hd hl (by omega) hf ht hok hu
end Go.Proofs.Ytopmikcljekdiaa.Ag
