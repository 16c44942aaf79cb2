/- MemApart: the walk. -/
import Derived.Test.YtopmikcljekdiaaMemMap
namespace Go.Proofs.Ytopmikcljekdiaa.Ag
open Go.RowKit Go.Maps Go.Proofs.YtopmikcljekdiaaW.PrintWords Go.Proofs.YtopmikcljekdiaaW.PrintLast Go.Proofs.YtopmikcljekdiaaW.PrintMore Go.Proofs.Ytopmikcljekdiaa.PA Go.Proofs.Ytopmikcljekdiaa.SL
set_option linter.unusedVariables false
set_option maxRecDepth 100000
set_option maxHeartbeats 32000000
theorem apart_small {words : Int} {n m c d : Nat} {A B : Option Addr} {w : World} (h : words < 1) : Calls Try.prog 12 #[.int .i64 words, .slice A n c, .slice B m d] w fun e w' => e = .returned (.bool true) ∧ Below w.heap.size w w' := by
  have S0 := Aside0.mk (St.nil w)
  have d1 : decide (words < 1) = true := decide_eq_true h
  clear h
  go_enter Try.func12, Try.ntmps12
  go_wp2_with (go_at_call 30; refine S0.out.mlive.mono ?_; rintro e w1 ⟨rfl, h⟩; have S1 := Aside0.mk h; clear h)
  go_ret
  exact ⟨rfl, S1.out.below⟩
theorem apart_many {words : Int} {n m c d : Nat} {A B : Option Addr} {xs : List S31} {ops : List S64} {w : World} (hr : Kd.C k31 w A n xs) (hx : xs.length = n) (hc : n ≤ c) (hro : Kd.C k64 w B m ops) (hm : ops.length = m) (hd : m ≤ d) (hl : m ≤ 9223372036854775807) (h : ¬ words < 1) (hf : fewB words n ops = false) :
    Calls Try.prog 12 #[.int .i64 words, .slice A n c, .slice B m d] w fun e w' => e = .returned (.bool true) ∧ Below w.heap.size w w' := by
  have S0 := Aside0.mk (St.nil w)
  have HR := Aside0.mk hr
  have HO := Aside0.mk hro
  have HX := Aside0.mk hx
  have HM := Aside0.mk hm
  have HFB := Aside0.mk hf
  have HC := Aside0.mk hc
  have HD := Aside0.mk hd
  have HL := Aside0.mk hl
  have d1 : decide (words < 1) = false := decide_eq_false h
  clear h hr hro hx hm hf hc hd hl
  go_enter Try.func12, Try.ntmps12
  go_wp2_with (first
    | (go_at_call 30; refine S0.out.mlive.mono ?_; rintro e w1 ⟨rfl, h⟩; have S1 := Aside0.mk h; clear h)
    | (go_at_call 36; refine (St.few (words := words) S1.out HR.out HX.out HC.out HO.out HM.out HD.out HL.out).mono ?_; rintro e w2 ⟨rfl, h⟩; rw [HFB.out]; have S2 := Aside0.mk h; clear h))
  go_ret
  exact ⟨rfl, S2.out.below⟩
theorem St.sw3_ {w0 w : World} {A B C D : Asn} {L : List Asn} (h : St w0 w (A :: B :: C :: D :: L)) : St w0 w (B :: C :: D :: A :: L) := h.perm ((List.Perm.swap _ _ _).trans (((List.Perm.swap _ _ _).trans ((List.Perm.swap _ _ _).cons _)).cons _))
theorem St.wform {w0 w : World} {L : List Asn} {A : Option Addr} {n c : Nat} {ws : List Int} (h : St w0 w (WoA (.slice A n c) ws :: L)) (hn : ws.length = n) (i : Nat) (hi : i < n) : ∃ r, A = some ⟨r, 0, none⟩ := by
  obtain ⟨F, hA, _, _⟩ := h.one
  obtain ⟨q, e, _⟩ := WoR.at hA.2.1 hn i hi
  exact ⟨q, e⟩
structure ApR (w wr : World) (b1 b2 b3 words k : Nat) (hits : List Int) (s t : MS) : Prop where
  ok1 : OkM s k
  ok2 : OkM t k
  apart : Apart hits s t
  len : s.ws.length = words
  hl : hits.length ≤ 40 + 20 * k
  st : St w wr [MapA b3 hits, MemA b1 s, MemA b2 t]
theorem apart_walk {words n m c d : Nat} {A B : Option Addr} {xs : List S31} {ops : List S64} {w : World} (hr : Kd.C k31 w A n xs) (hx : xs.length = n) (hc : n ≤ c) (hro : Kd.C k64 w B m ops) (hm : ops.length = m) (hd : m ≤ d) (hl : m ≤ 9223372036854775807) (h : ¬ words < 1) (hf : fewB words n ops = true)
    (ht : ∀ x ∈ xs, x.f3 ≤ 9223372036854775807) (hok : ∀ o ∈ ops, OpOk o) (hwx : ∀ x ∈ xs, (Lit.int .i64 x.f4).wf = true) (hwo : ∀ o ∈ ops, (Lit.int .i64 o.f1).wf = true ∧ ∀ x ∈ o.f3, (Lit.int .i64 x.f4).wf = true) :
    Calls Try.prog 12 #[.int .i64 words, .slice A n c, .slice B m d] w fun e w' => e = .returned (.bool true) ∧ Below w.heap.size w w' := by
  have S0 := Aside0.mk (St.nil w)
  have hfew := few_of hf
  have hw60 : words ≤ 60 := by have := hfew.small; omega
  have hm80 : m ≤ 80 := by have := hfew.short; omega
  have hn40 : n ≤ 40 := hfew.few
  have HN : Aside0 (n ≤ 1024) := ⟨by omega⟩
  have O0 : Aside0 (OkM ⟨List.replicate words 0, xs, 0, 0⟩ 0) := ⟨⟨by simp only; omega, ht, by simp, by simp, by simp; omega⟩⟩
  have O0' : Aside0 (OkM ⟨List.replicate words 0, [], 0, 0⟩ 0) := ⟨⟨by simp, by simp, by simp, by simp, by simp; omega⟩⟩
  have HR := Aside0.mk hr
  have HO := Aside0.mk hro
  have HX := Aside0.mk hx
  have HM := Aside0.mk hm
  have HFB := Aside0.mk hf
  have HC := Aside0.mk hc
  have HD := Aside0.mk hd
  have HL := Aside0.mk hl
  have HOK := Aside0.mk hok
  have HWX := Aside0.mk hwx
  have HWO := Aside0.mk hwo
  have HFE : Aside0 (∀ o ∈ ops, o.f3.length ≤ 20 ∨ (1024 < o.f3.length ∧ o.f3.length ≤ 1030)) := ⟨hfew.each⟩
  have HW1 : Aside0 (1 ≤ words) := ⟨by omega⟩
  have HW2 : Aside0 (words ≤ 16384) := ⟨by omega⟩
  have HW3 : Aside0 (words ≤ 100000) := ⟨by omega⟩
  have d1 : decide ((words : Int) < 1) = false := decide_eq_false (by omega)
  have hmm := @run_makeMap Try.prog
  clear h hr hro hx hm hf hc hd hl ht hok hfew hwx hwo
  go_enter Try.func12, Try.ntmps12
  go_wp2_with (first
    | (go_at_call 30; refine S0.out.mlive.mono ?_; rintro e w1 ⟨rfl, h⟩; have S1 := Aside0.mk h; clear h)
    | (go_at_call 36; refine (St.few (words := words) S1.out HR.out HX.out HC.out HO.out HM.out HD.out HL.out).mono ?_; rintro e w2 ⟨rfl, h⟩; rw [HFB.out]; have S2 := Aside0.mk h; clear h)
    | (go_at_call 31; have t_ := S3.out; clear t_; refine (S3.out.mnew (n := words) (c := 0) HW1.out HW2.out nil_C31 rfl (Nat.zero_le _)).mono ?_; rintro e w4 ⟨b2, rfl, h⟩; have S4 := Aside0.mk h; clear h)
    | (go_at_call 31; refine (S2.out.mnew (n := words) (c := c) HW1.out HW2.out (below_C HR.out S2.out.below) HX.out HN.out).mono ?_; rintro e w3 ⟨b1, rfl, h⟩; have S3 := Aside0.mk h; clear h))
  have S5 := Aside0.mk (S4.out.sw1.map_new)
  clear hmm
  obtain ⟨b3, hb3⟩ : ∃ b3, w4.heap.size = b3 := ⟨_, rfl⟩
  rw [hb3] at S5 ⊢
  clear hb3 S1 S2 S3 S4
  go_loopw [65] (fun v65 wr => ∃ (k : Nat), v65 = .int .i64 k ∧ Aside0 (k ≤ n) ∧ Aside0 (St w wr [MapA b3 (hitL [] (xs.take k)), MemA b1 ⟨List.replicate words 0, xs, 0, 0⟩, MemA b2 ⟨List.replicate words 0, [], 0, 0⟩])) (fun v65 _ => n - (intOf v65).toNat)
  case atStart => exact ⟨0, rfl, ⟨Nat.zero_le _⟩, S5⟩
  case round =>
    obtain ⟨k, rfl, HK, SS⟩ := hrel
    clear S5
    by_cases hkk : k < n
    · have hkx : k < xs.length := by have := HX.out; omega
      obtain ⟨ad, ea, x0, x1, x2, x3, x4, x5⟩ := at_T31 (below_C HR.out SS.out.below) (k : Int) (by omega) (by omega)
      have hrd : rd_T31 xs (k : Int) = xs[k] := by simp [rd_T31, hkx]
      rw [hrd] at x0 x1 x2 x3 x4 x5
      rw [Int.toNat_natCast] at x0 x1 x2 x3 x4 x5
      have hst := hitL_take [] xs k xs[k] (List.getElem?_eq_getElem hkx)
      have hwf := HWX.out xs[k] (List.getElem_mem hkx)
      have hll : (hitL [] (xs.take k)).length ≤ 40 := by rw [hitL_len, List.length_take]; simp; omega
      generalize xs[k] = x at *
      obtain ⟨f0, f1, f2, f3, f4, f5⟩ := x
      simp only at x0 x1 x2 x3 x4 x5 hwf hst
      subst ea
      obtain ⟨hits, hh⟩ : ∃ hits, hitL [] (xs.take k) = hits := ⟨_, rfl⟩
      rw [hh] at hst SS hll
      obtain ⟨B1, hB1⟩ : ∃ B1 : Obj, B1 = .cells #[.int .i64 f0, .int .i64 f1, .int .i64 f2, .int .i64 f3, .int .i64 f4, .int .u64 f5] 31 := ⟨_, rfl⟩
      have S6 : St w (wr.alloc B1) [MapA b3 hits, MemA b1 ⟨List.replicate words 0, xs, 0, 0⟩, MemA b2 ⟨List.replicate words 0, [], 0, 0⟩] := SS.out.then (below_alloc (Below.refl _ _) B1)
      have hlk := S6.map_at hwf
      obtain ⟨w6, hup, S7⟩ := S6.map_put hwf (by omega)
      have hcn : hits.count f4 ≤ 40 := Nat.le_trans List.count_le_length hll
      have HST := Aside0.mk hst
      have S8 := Aside0.mk S7
      have KK := Aside0.mk hkk
      generalize hits.count f4 = cn at *
      clear hrd hkx hh hst hwf hll S6 S7
      subst hB1
      go_wp2
      go_roundw
      case rel => exact ⟨k + 1, by go_num, KK, ⟨by rw [HST.out]; exact S8.out⟩⟩
      case measure => simp [intOf]; omega
    · have hkn : k = n := by have := HK.out; omega
      subst hkn
      have hfull : xs.take k = xs := List.take_of_length_le (by have := HX.out; omega)
      have S6 := SS.out
      rw [hfull] at S6
      have HA0 : Aside0 (Apart (hitL [] xs) ⟨List.replicate words 0, xs, 0, 0⟩ ⟨List.replicate words 0, [], 0, 0⟩) := ⟨⟨rfl, rfl, rfl, rfl, fun x hx => (hitL_mem _ _ _).2 (.inr ⟨x, hx, rfl⟩), fun i hi => rfl⟩⟩
      have HL0 : Aside0 ((hitL [] xs).length ≤ 40) := ⟨by rw [hitL_len]; have := HX.out; simp; omega⟩
      have S7 := Aside0.mk S6
      clear hfull SS S6
      go_wp2
      go_loopw [77] (fun v77 wr => ∃ (k2 : Nat) (hits : List Int) (s t : MS), v77 = .int .i64 k2 ∧ Aside0 (k2 ≤ m) ∧ Aside0 (ApR w wr b1 b2 b3 words k2 hits s t)) (fun v77 _ => m - (intOf v77).toNat)
      case atStart => exact ⟨0, _, _, _, rfl, ⟨Nat.zero_le _⟩, ⟨⟨O0.out, O0'.out, HA0.out, by simp, HL0.out, S7.out⟩⟩⟩
      case round =>
        obtain ⟨k2, hits, s, t, rfl, HK2, HDD⟩ := hrel
        obtain ⟨ok1, ok2, al, len, hhl, st⟩ := HDD.out
        clear S7 HA0 HL0 O0 O0'
        by_cases hkm : k2 < m
        · have hkx : k2 < ops.length := by have := HM.out; omega
          obtain ⟨ad, A3, c3, ea, x0, x1, x2, x3, hl3, hi3⟩ := at_T64 HO.out (k2 : Int) (by omega) (by omega)
          have hrd : rd_T64 ops (k2 : Int) = ops[k2] := by simp [rd_T64, hkx]
          rw [hrd] at x0 x1 x2 x3 hl3 hi3
          rw [Int.toNat_natCast] at x0 x1 x2 x3
          have hoo := HOK.out ops[k2] (List.getElem_mem hkx)
          have hww := HWO.out ops[k2] (List.getElem_mem hkx)
          have hfe := HFE.out ops[k2] (List.getElem_mem hkx)
          generalize ops[k2] = o at *
          obtain ⟨kd, a, u, os⟩ := o
          simp only at x0 x1 x2 x3 hl3 hi3 hww hfe
          have g0 := hoo.kind.1
          have g1 := hoo.kind.2
          simp only at g0 g1
          have HTK : Aside0 (∀ x ∈ os, x.f3 ≤ 9223372036854775807) := ⟨hoo.tick⟩
          subst ea
          obtain ⟨n3, hn3⟩ : ∃ n3, os.length = n3 := ⟨_, rfl⟩
          rw [hn3] at x3 hl3 hi3 hfe
          have x0 := pw_cell_below st.below x0
          have x1 := pw_cell_below st.below x1
          have x2 := pw_cell_below st.below x2
          have x3 := pw_cell_below st.below x3
          obtain ⟨Bo, hBo⟩ : ∃ Bo : Obj, Bo = .cells #[.int .u8 kd, .int .i64 a, .int .u64 u, .slice A3 n3 c3] 64 := ⟨_, rfl⟩
          obtain ⟨Bp, hBp⟩ : ∃ Bp : Obj, Bp = .cells #[.int .u8 kd, .int .i64 a, .int .u64 u, .slice none 0 0] 64 := ⟨_, rfl⟩
          have hsz : (wr.alloc Bo).heap.size = wr.heap.size + 1 := by simp
          have hs4 := (st.box Bo).box Bp
          rw [hsz] at hs4
          have S4 : Aside0 (St w ((wr.alloc Bo).alloc Bp) [MapA b3 hits, MemA b1 s, MemA b2 t, BlkA (wr.heap.size + 1) Bp, BlkA wr.heap.size Bo]) := ⟨hs4.perm (by
            have p1 : [BlkA (wr.heap.size + 1) Bp, BlkA wr.heap.size Bo, MapA b3 hits, MemA b1 s, MemA b2 t] = [BlkA (wr.heap.size + 1) Bp, BlkA wr.heap.size Bo] ++ [MapA b3 hits, MemA b1 s, MemA b2 t] := rfl
            rw [p1]
            exact List.perm_append_comm)⟩
          have ST := Aside0.mk st
          have HBo := Aside0.mk hBo
          have HBp := Aside0.mk hBp
          have HI3 := Aside0.mk hi3
          have HN3 := Aside0.mk hn3
          have OK1 := Aside0.mk ok1
          have OK2 := Aside0.mk ok2
          have G0 : Aside0 (0 ≤ kd ∧ kd ≤ 255) := ⟨⟨g0, g1⟩⟩
          have AL := Aside0.mk al
          have LEN := Aside0.mk len
          have HHL := Aside0.mk hhl
          have WA := Aside0.mk hww.1
          have WE := Aside0.mk hww.2
          have OTK := Aside0.mk hoo.tick
          have K1 : Aside0 (k2 ≤ 100000) := ⟨by omega⟩
          have KK := Aside0.mk hkm
          have hkb : k2 ≤ 80 := by omega
          clear hrd hkx hi3 hoo al ok1 ok2 len st hn3 hs4 hsz hww hhl
          by_cases hbig : 1024 < n3
          · have e0 : decide ((1024 : Int) < (n3 : Int)) = true := decide_eq_true (by omega)
            have S9 : Aside0 (St w ((wr.alloc Bo).alloc Bp) [MapA b3 hits, MemA b1 s, MemA b2 t]) := ⟨(ST.out.then (below_alloc (Below.refl _ _) Bo)).then (below_alloc (Below.refl _ _) Bp)⟩
            subst hBo hBp
            go_wp2
            go_roundw
            case rel => exact ⟨k2 + 1, hits, s, t, by go_num, KK, ⟨⟨OK1.out.more, OK2.out.more, AL.out, LEN.out, by have := HHL.out; omega, S9.out⟩⟩⟩
            case measure => simp [intOf]; omega
          · have e0 : decide ((1024 : Int) < (n3 : Int)) = false := decide_eq_false (by omega)
            have hn20 : n3 ≤ 20 := by omega
            have HN4 : Aside0 (os.length ≤ 1024) := ⟨by have := HN3.out; omega⟩
            clear hbig hfe
            obtain ⟨s', t', v, v2, f, hdo1, hdo2, al', hvv⟩ := AL.out.op kd a u os HN4.out
            have HDO1 := Aside0.mk hdo1
            have HDO2 := Aside0.mk hdo2
            have hK1 : OkM s' (k2 + 1) := by have := OK1.out.op (kd := kd) (a := a) (u := u) (xs := os) OTK.out; rw [hdo1] at this; exact this
            have hK2 : OkM t' (k2 + 1) := by have := OK2.out.op (kd := kd) (a := a) (u := u) (xs := []) (by simp); rw [hdo2] at this; exact this
            have hL1 : s'.ws.length = words := by have := doM_len s kd a u os; rw [hdo1] at this; exact this.trans LEN.out
            have HK1 := Aside0.mk hK1
            have HK2' := Aside0.mk hK2
            have HL1 := Aside0.mk hL1
            have AL' := Aside0.mk al'
            have HVV := Aside0.mk hvv
            obtain ⟨tk1, htk1⟩ : ∃ x, s'.tk = x := ⟨_, rfl⟩
            obtain ⟨ah1, hah1⟩ : ∃ x, s'.ah + s'.tk = x := ⟨_, rfl⟩
            have HTK1 := Aside0.mk htk1
            have HAH1 := Aside0.mk hah1
            have HTK2 : Aside0 (t'.tk = tk1) := ⟨by rw [← al'.tk]; exact htk1⟩
            have HAH2 : Aside0 (t'.ah + t'.tk = ah1) := ⟨by rw [← al'.tk, ← al'.ah]; exact hah1⟩
            have K2 : Aside0 (k2 + 1 ≤ 100000) := ⟨by omega⟩
            clear hdo1 hdo2 al' hvv hK1 hK2 hL1 htk1 hah1
            by_cases h3 : kd % 4 = 3
            · have e3 : (kd % 4 == 3) = true := beq_iff_eq.2 h3
              rw [if_pos h3] at AL' HVV
              clear h3
              obtain ⟨wo, rfl⟩ : ∃ wo : World, wo = wr := ⟨_, rfl⟩
              subst hBo hBp
              go_wp2
              go_loopw [94] (fun v94 wq => ∃ (j : Nat), v94 = .int .i64 j ∧ Aside0 (j ≤ n3) ∧ Aside0 (St w wq [MapA b3 (hitL hits (os.take j)), MemA b1 s, MemA b2 t, BlkA (wo.heap.size + 1) (.cells #[.int .u8 kd, .int .i64 a, .int .u64 u, .slice none 0 0] 64), BlkA wo.heap.size (.cells #[.int .u8 kd, .int .i64 a, .int .u64 u, .slice A3 n3 c3] 64)])) (fun v94 _ => n3 - (intOf v94).toNat)
              case atStart => exact ⟨0, rfl, ⟨Nat.zero_le _⟩, S4⟩
              case round =>
                obtain ⟨j, rfl, HJ, SS⟩ := hrel
                clear S4
                by_cases hjj : j < n3
                · have hjx : j < os.length := by have := HN3.out; omega
                  obtain ⟨ad2, ea, q0, q1, q2, q3, q4, q5⟩ := at_T31 (below_C HI3.out SS.out.below) (j : Int) (by omega) (by omega)
                  have hrd : rd_T31 os (j : Int) = os[j] := by simp [rd_T31, hjx]
                  rw [hrd] at q0 q1 q2 q3 q4 q5
                  rw [Int.toNat_natCast] at q0 q1 q2 q3 q4 q5
                  have hst := hitL_take hits os j os[j] (List.getElem?_eq_getElem hjx)
                  have hwf := WE.out os[j] (List.getElem_mem hjx)
                  have hll : (hitL hits (os.take j)).length ≤ 4000 := by rw [hitL_len, List.length_take]; have := HHL.out; omega
                  generalize os[j] = x at *
                  obtain ⟨f0, f1, f2, f3, f4, f5⟩ := x
                  simp only at q0 q1 q2 q3 q4 q5 hwf hst
                  subst ea
                  obtain ⟨hi2, hh⟩ : ∃ hi2, hitL hits (os.take j) = hi2 := ⟨_, rfl⟩
                  rw [hh] at hst SS hll
                  obtain ⟨B1, hB1⟩ : ∃ B1 : Obj, B1 = .cells #[.int .i64 f0, .int .i64 f1, .int .i64 f2, .int .i64 f3, .int .i64 f4, .int .u64 f5] 31 := ⟨_, rfl⟩
                  have S6 := SS.out.then (below_alloc (Below.refl _ _) B1)
                  have hlk := S6.map_at hwf
                  obtain ⟨w6, hup, S7⟩ := S6.map_put hwf (by omega)
                  have hcn : hi2.count f4 ≤ 4000 := Nat.le_trans List.count_le_length hll
                  have HST := Aside0.mk hst
                  have S8 := Aside0.mk S7
                  have KJ := Aside0.mk hjj
                  generalize hi2.count f4 = cn at *
                  clear hrd hjx hh hst hwf hll S6 S7
                  subst hB1
                  go_wp2
                  go_roundw
                  case rel => exact ⟨j + 1, by go_num, KJ, ⟨by rw [HST.out]; exact S8.out⟩⟩
                  case measure => simp [intOf]; omega
                · obtain rfl : n3 = j := by have := HJ.out; omega
                  have hfull : os.take n3 = os := List.take_of_length_le (by have := HN3.out; omega)
                  have S4 := SS.out
                  rw [hfull] at S4
                  have S4 := Aside0.mk S4
                  clear hfull SS
                  have q := (S4.out.sw4).blk
                  have z0 : wr.cell? ⟨wo.heap.size, 0, none⟩ = some (.int .u8 kd) := cell_of_block q 0
                  have z1 : wr.cell? ⟨wo.heap.size, 1, none⟩ = some (.int .i64 a) := cell_of_block q 1
                  have z2 : wr.cell? ⟨wo.heap.size, 2, none⟩ = some (.int .u64 u) := cell_of_block q 2
                  have z3 : wr.cell? ⟨wo.heap.size, 3, none⟩ = some (.slice A3 n3 c3) := cell_of_block q 3
                  clear q
                  have hcn : (hitL hits os).count a ≤ 4000 := Nat.le_trans List.count_le_length (by have := HHL.out; (rw [hitL_len, HN3.out]; omega))
                  obtain ⟨cn, hcc⟩ : ∃ cn, (hitL hits os).count a = cn := ⟨_, rfl⟩
                  have HCC := Aside0.mk hcc
                  rw [hcc] at hcn
                  have hcs : (((cn : Int) == 0) = false) ∨ (cn = 0 ∧ v = v2) := by
                    rcases Nat.eq_zero_or_pos cn with h | h
                    · exact .inr ⟨h, HVV.out (fun hh => by have := List.count_pos_iff.2 hh; omega)⟩
                    · exact .inl (beq_eq_false_iff_ne.2 (by omega))
                  clear hcc
                  rcases hcs with hz | ⟨rfl, rfl⟩
                  · go_wp2_with (first
                      | (go_at_call 35; have t_ := U3.out; clear t_; refine (St.allE U3.out.sw2 HK2'.out K2.out HAH2.out).mono ?_; rintro e w9 ⟨rfl, h⟩; have U4 := Aside0.mk h.sw2_; clear h)
                      | (go_at_call 35; have t_ := U2.out; clear t_; refine (St.allE U2.out.sw1 HK1.out K2.out HAH1.out).mono ?_; rintro e w8 ⟨rfl, h⟩; have U3 := Aside0.mk h.sw1; clear h)
                      | (go_at_call 44; have t_ := U1.out; clear t_; refine (St.ticksE U1.out.sw2 HTK2.out).mono ?_; rintro e w7b ⟨rfl, hw⟩; obtain rfl := hw.symm; have U2 := U1)
                      | (go_at_call 44; have t_ := S8.out; clear t_; refine (St.ticksE S8.out.sw1 HTK1.out).mono ?_; rintro e w7b ⟨rfl, hw⟩; obtain rfl := hw.symm; have U1 := S8)
                      | (go_at_call 37; have t_ := S7.out; clear t_; refine (St.doAny (c := 0) S7.out.sw2 OK2.out K1.out G0.out nil_C31 rfl HDO2.out).mono ?_; rintro e w7 ⟨rfl, h⟩; have h := h.sw2_; have q := (h.sw4).blk; have z0 : w7.cell? ⟨wo.heap.size, 0, none⟩ = some (.int .u8 kd) := cell_of_block q 0; have z1 : w7.cell? ⟨wo.heap.size, 1, none⟩ = some (.int .i64 a) := cell_of_block q 1; have z2 : w7.cell? ⟨wo.heap.size, 2, none⟩ = some (.int .u64 u) := cell_of_block q 2; have z3 : w7.cell? ⟨wo.heap.size, 3, none⟩ = some (.slice A3 n3 c3) := cell_of_block q 3; clear q; have q := (h.sw3).blk; have y0 : w7.cell? ⟨wo.heap.size + 1, 0, none⟩ = some (.int .u8 kd) := cell_of_block q 0; have y1 : w7.cell? ⟨wo.heap.size + 1, 1, none⟩ = some (.int .i64 a) := cell_of_block q 1; have y2 : w7.cell? ⟨wo.heap.size + 1, 2, none⟩ = some (.int .u64 u) := cell_of_block q 2; have y3 : w7.cell? ⟨wo.heap.size + 1, 3, none⟩ = some (.slice none 0 0) := cell_of_block q 3; clear q; have hlk := h.map_at WA.out; rw [HCC.out] at hlk; skip; have S8 := Aside0.mk h; clear h)
                      | (go_at_call 37; refine (St.doAny (c := c3) (S4.out.sw1) OK1.out K1.out G0.out (Kd.C_below HI3.out S4.out.below) HN3.out HDO1.out).mono ?_; rintro e w6 ⟨rfl, h⟩; have h := h.sw1; have q := (h.sw4).blk; have z0 : w6.cell? ⟨wo.heap.size, 0, none⟩ = some (.int .u8 kd) := cell_of_block q 0; have z1 : w6.cell? ⟨wo.heap.size, 1, none⟩ = some (.int .i64 a) := cell_of_block q 1; have z2 : w6.cell? ⟨wo.heap.size, 2, none⟩ = some (.int .u64 u) := cell_of_block q 2; have z3 : w6.cell? ⟨wo.heap.size, 3, none⟩ = some (.slice A3 n3 c3) := cell_of_block q 3; clear q; have q := (h.sw3).blk; have y0 : w6.cell? ⟨wo.heap.size + 1, 0, none⟩ = some (.int .u8 kd) := cell_of_block q 0; have y1 : w6.cell? ⟨wo.heap.size + 1, 1, none⟩ = some (.int .i64 a) := cell_of_block q 1; have y2 : w6.cell? ⟨wo.heap.size + 1, 2, none⟩ = some (.int .u64 u) := cell_of_block q 2; have y3 : w6.cell? ⟨wo.heap.size + 1, 3, none⟩ = some (.slice none 0 0) := cell_of_block q 3; clear q; have S7 := Aside0.mk h; clear h))
                    go_roundw
                    case rel => exact ⟨k2 + 1, hitL hits os, s', t', by go_num, KK, ⟨⟨HK1.out, HK2'.out, AL'.out, HL1.out, by have := HHL.out; (rw [hitL_len, HN3.out]; omega), U4.out.sw3.drop.sw3.drop⟩⟩⟩
                    case measure => simp [intOf]; omega
                  · go_wp2_with (first
                      | (go_at_call 35; have t_ := U3.out; clear t_; refine (St.allE U3.out.sw2 HK2'.out K2.out HAH2.out).mono ?_; rintro e w9 ⟨rfl, h⟩; have U4 := Aside0.mk h.sw2_; clear h)
                      | (go_at_call 35; have t_ := U2.out; clear t_; refine (St.allE U2.out.sw1 HK1.out K2.out HAH1.out).mono ?_; rintro e w8 ⟨rfl, h⟩; have U3 := Aside0.mk h.sw1; clear h)
                      | (go_at_call 44; have t_ := U1.out; clear t_; refine (St.ticksE U1.out.sw2 HTK2.out).mono ?_; rintro e w7b ⟨rfl, hw⟩; obtain rfl := hw.symm; have U2 := U1)
                      | (go_at_call 44; have t_ := S8.out; clear t_; refine (St.ticksE S8.out.sw1 HTK1.out).mono ?_; rintro e w7b ⟨rfl, hw⟩; obtain rfl := hw.symm; have U1 := S8)
                      | (go_at_call 37; have t_ := S7.out; clear t_; refine (St.doAny (c := 0) S7.out.sw2 OK2.out K1.out G0.out nil_C31 rfl HDO2.out).mono ?_; rintro e w7 ⟨rfl, h⟩; have h := h.sw2_; have q := (h.sw4).blk; have z0 : w7.cell? ⟨wo.heap.size, 0, none⟩ = some (.int .u8 kd) := cell_of_block q 0; have z1 : w7.cell? ⟨wo.heap.size, 1, none⟩ = some (.int .i64 a) := cell_of_block q 1; have z2 : w7.cell? ⟨wo.heap.size, 2, none⟩ = some (.int .u64 u) := cell_of_block q 2; have z3 : w7.cell? ⟨wo.heap.size, 3, none⟩ = some (.slice A3 n3 c3) := cell_of_block q 3; clear q; have q := (h.sw3).blk; have y0 : w7.cell? ⟨wo.heap.size + 1, 0, none⟩ = some (.int .u8 kd) := cell_of_block q 0; have y1 : w7.cell? ⟨wo.heap.size + 1, 1, none⟩ = some (.int .i64 a) := cell_of_block q 1; have y2 : w7.cell? ⟨wo.heap.size + 1, 2, none⟩ = some (.int .u64 u) := cell_of_block q 2; have y3 : w7.cell? ⟨wo.heap.size + 1, 3, none⟩ = some (.slice none 0 0) := cell_of_block q 3; clear q; have hlk := h.map_at WA.out; rw [HCC.out] at hlk; rw [show (((0 : Nat) : Int)) = 0 from rfl] at hlk; have S8 := Aside0.mk h; clear h)
                      | (go_at_call 37; refine (St.doAny (c := c3) (S4.out.sw1) OK1.out K1.out G0.out (Kd.C_below HI3.out S4.out.below) HN3.out HDO1.out).mono ?_; rintro e w6 ⟨rfl, h⟩; have h := h.sw1; have q := (h.sw4).blk; have z0 : w6.cell? ⟨wo.heap.size, 0, none⟩ = some (.int .u8 kd) := cell_of_block q 0; have z1 : w6.cell? ⟨wo.heap.size, 1, none⟩ = some (.int .i64 a) := cell_of_block q 1; have z2 : w6.cell? ⟨wo.heap.size, 2, none⟩ = some (.int .u64 u) := cell_of_block q 2; have z3 : w6.cell? ⟨wo.heap.size, 3, none⟩ = some (.slice A3 n3 c3) := cell_of_block q 3; clear q; have q := (h.sw3).blk; have y0 : w6.cell? ⟨wo.heap.size + 1, 0, none⟩ = some (.int .u8 kd) := cell_of_block q 0; have y1 : w6.cell? ⟨wo.heap.size + 1, 1, none⟩ = some (.int .i64 a) := cell_of_block q 1; have y2 : w6.cell? ⟨wo.heap.size + 1, 2, none⟩ = some (.int .u64 u) := cell_of_block q 2; have y3 : w6.cell? ⟨wo.heap.size + 1, 3, none⟩ = some (.slice none 0 0) := cell_of_block q 3; clear q; have S7 := Aside0.mk h; clear h))
                    go_roundw
                    case rel => exact ⟨k2 + 1, hitL hits os, s', t', by go_num, KK, ⟨⟨HK1.out, HK2'.out, AL'.out, HL1.out, by have := HHL.out; (rw [hitL_len, HN3.out]; omega), U4.out.sw3.drop.sw3.drop⟩⟩⟩
                    case measure => simp [intOf]; omega
            · have e3 : (kd % 4 == 3) = false := beq_eq_false_iff_ne.2 h3
              rw [if_neg h3] at AL' HVV
              clear h3
              subst hBo hBp
              have hcn : (hits).count a ≤ 4000 := Nat.le_trans List.count_le_length (by have := HHL.out; omega)
              obtain ⟨cn, hcc⟩ : ∃ cn, (hits).count a = cn := ⟨_, rfl⟩
              have HCC := Aside0.mk hcc
              rw [hcc] at hcn
              have hcs : (((cn : Int) == 0) = false) ∨ (cn = 0 ∧ v = v2) := by
                rcases Nat.eq_zero_or_pos cn with h | h
                · exact .inr ⟨h, HVV.out (fun hh => by have := List.count_pos_iff.2 hh; omega)⟩
                · exact .inl (beq_eq_false_iff_ne.2 (by omega))
              clear hcc
              rcases hcs with hz | ⟨rfl, rfl⟩
              · go_wp2_with (first
                  | (go_at_call 35; have t_ := U3.out; clear t_; refine (St.allE U3.out.sw2 HK2'.out K2.out HAH2.out).mono ?_; rintro e w9 ⟨rfl, h⟩; have U4 := Aside0.mk h.sw2_; clear h)
                  | (go_at_call 35; have t_ := U2.out; clear t_; refine (St.allE U2.out.sw1 HK1.out K2.out HAH1.out).mono ?_; rintro e w8 ⟨rfl, h⟩; have U3 := Aside0.mk h.sw1; clear h)
                  | (go_at_call 44; have t_ := U1.out; clear t_; refine (St.ticksE U1.out.sw2 HTK2.out).mono ?_; rintro e w7b ⟨rfl, hw⟩; obtain rfl := hw.symm; have U2 := U1)
                  | (go_at_call 44; have t_ := S8.out; clear t_; refine (St.ticksE S8.out.sw1 HTK1.out).mono ?_; rintro e w7b ⟨rfl, hw⟩; obtain rfl := hw.symm; have U1 := S8)
                  | (go_at_call 37; have t_ := S7.out; clear t_; refine (St.doAny (c := 0) S7.out.sw2 OK2.out K1.out G0.out nil_C31 rfl HDO2.out).mono ?_; rintro e w7 ⟨rfl, h⟩; have h := h.sw2_; have q := (h.sw4).blk; have z0 : w7.cell? ⟨wr.heap.size, 0, none⟩ = some (.int .u8 kd) := cell_of_block q 0; have z1 : w7.cell? ⟨wr.heap.size, 1, none⟩ = some (.int .i64 a) := cell_of_block q 1; have z2 : w7.cell? ⟨wr.heap.size, 2, none⟩ = some (.int .u64 u) := cell_of_block q 2; have z3 : w7.cell? ⟨wr.heap.size, 3, none⟩ = some (.slice A3 n3 c3) := cell_of_block q 3; clear q; have q := (h.sw3).blk; have y0 : w7.cell? ⟨wr.heap.size + 1, 0, none⟩ = some (.int .u8 kd) := cell_of_block q 0; have y1 : w7.cell? ⟨wr.heap.size + 1, 1, none⟩ = some (.int .i64 a) := cell_of_block q 1; have y2 : w7.cell? ⟨wr.heap.size + 1, 2, none⟩ = some (.int .u64 u) := cell_of_block q 2; have y3 : w7.cell? ⟨wr.heap.size + 1, 3, none⟩ = some (.slice none 0 0) := cell_of_block q 3; clear q; have hlk := h.map_at WA.out; rw [HCC.out] at hlk; skip; have S8 := Aside0.mk h; clear h)
                  | (go_at_call 37; refine (St.doAny (c := c3) (S4.out.sw1) OK1.out K1.out G0.out (Kd.C_below HI3.out S4.out.below) HN3.out HDO1.out).mono ?_; rintro e w6 ⟨rfl, h⟩; have h := h.sw1; have q := (h.sw4).blk; have z0 : w6.cell? ⟨wr.heap.size, 0, none⟩ = some (.int .u8 kd) := cell_of_block q 0; have z1 : w6.cell? ⟨wr.heap.size, 1, none⟩ = some (.int .i64 a) := cell_of_block q 1; have z2 : w6.cell? ⟨wr.heap.size, 2, none⟩ = some (.int .u64 u) := cell_of_block q 2; have z3 : w6.cell? ⟨wr.heap.size, 3, none⟩ = some (.slice A3 n3 c3) := cell_of_block q 3; clear q; have q := (h.sw3).blk; have y0 : w6.cell? ⟨wr.heap.size + 1, 0, none⟩ = some (.int .u8 kd) := cell_of_block q 0; have y1 : w6.cell? ⟨wr.heap.size + 1, 1, none⟩ = some (.int .i64 a) := cell_of_block q 1; have y2 : w6.cell? ⟨wr.heap.size + 1, 2, none⟩ = some (.int .u64 u) := cell_of_block q 2; have y3 : w6.cell? ⟨wr.heap.size + 1, 3, none⟩ = some (.slice none 0 0) := cell_of_block q 3; clear q; have S7 := Aside0.mk h; clear h))
                go_roundw
                case rel => exact ⟨k2 + 1, hits, s', t', by go_num, KK, ⟨⟨HK1.out, HK2'.out, AL'.out, HL1.out, by have := HHL.out; omega, U4.out.sw3.drop.sw3.drop⟩⟩⟩
                case measure => simp [intOf]; omega
              · go_wp2_with (first
                  | (go_at_call 35; have t_ := U3.out; clear t_; refine (St.allE U3.out.sw2 HK2'.out K2.out HAH2.out).mono ?_; rintro e w9 ⟨rfl, h⟩; have U4 := Aside0.mk h.sw2_; clear h)
                  | (go_at_call 35; have t_ := U2.out; clear t_; refine (St.allE U2.out.sw1 HK1.out K2.out HAH1.out).mono ?_; rintro e w8 ⟨rfl, h⟩; have U3 := Aside0.mk h.sw1; clear h)
                  | (go_at_call 44; have t_ := U1.out; clear t_; refine (St.ticksE U1.out.sw2 HTK2.out).mono ?_; rintro e w7b ⟨rfl, hw⟩; obtain rfl := hw.symm; have U2 := U1)
                  | (go_at_call 44; have t_ := S8.out; clear t_; refine (St.ticksE S8.out.sw1 HTK1.out).mono ?_; rintro e w7b ⟨rfl, hw⟩; obtain rfl := hw.symm; have U1 := S8)
                  | (go_at_call 37; have t_ := S7.out; clear t_; refine (St.doAny (c := 0) S7.out.sw2 OK2.out K1.out G0.out nil_C31 rfl HDO2.out).mono ?_; rintro e w7 ⟨rfl, h⟩; have h := h.sw2_; have q := (h.sw4).blk; have z0 : w7.cell? ⟨wr.heap.size, 0, none⟩ = some (.int .u8 kd) := cell_of_block q 0; have z1 : w7.cell? ⟨wr.heap.size, 1, none⟩ = some (.int .i64 a) := cell_of_block q 1; have z2 : w7.cell? ⟨wr.heap.size, 2, none⟩ = some (.int .u64 u) := cell_of_block q 2; have z3 : w7.cell? ⟨wr.heap.size, 3, none⟩ = some (.slice A3 n3 c3) := cell_of_block q 3; clear q; have q := (h.sw3).blk; have y0 : w7.cell? ⟨wr.heap.size + 1, 0, none⟩ = some (.int .u8 kd) := cell_of_block q 0; have y1 : w7.cell? ⟨wr.heap.size + 1, 1, none⟩ = some (.int .i64 a) := cell_of_block q 1; have y2 : w7.cell? ⟨wr.heap.size + 1, 2, none⟩ = some (.int .u64 u) := cell_of_block q 2; have y3 : w7.cell? ⟨wr.heap.size + 1, 3, none⟩ = some (.slice none 0 0) := cell_of_block q 3; clear q; have hlk := h.map_at WA.out; rw [HCC.out] at hlk; rw [show (((0 : Nat) : Int)) = 0 from rfl] at hlk; have S8 := Aside0.mk h; clear h)
                  | (go_at_call 37; refine (St.doAny (c := c3) (S4.out.sw1) OK1.out K1.out G0.out (Kd.C_below HI3.out S4.out.below) HN3.out HDO1.out).mono ?_; rintro e w6 ⟨rfl, h⟩; have h := h.sw1; have q := (h.sw4).blk; have z0 : w6.cell? ⟨wr.heap.size, 0, none⟩ = some (.int .u8 kd) := cell_of_block q 0; have z1 : w6.cell? ⟨wr.heap.size, 1, none⟩ = some (.int .i64 a) := cell_of_block q 1; have z2 : w6.cell? ⟨wr.heap.size, 2, none⟩ = some (.int .u64 u) := cell_of_block q 2; have z3 : w6.cell? ⟨wr.heap.size, 3, none⟩ = some (.slice A3 n3 c3) := cell_of_block q 3; clear q; have q := (h.sw3).blk; have y0 : w6.cell? ⟨wr.heap.size + 1, 0, none⟩ = some (.int .u8 kd) := cell_of_block q 0; have y1 : w6.cell? ⟨wr.heap.size + 1, 1, none⟩ = some (.int .i64 a) := cell_of_block q 1; have y2 : w6.cell? ⟨wr.heap.size + 1, 2, none⟩ = some (.int .u64 u) := cell_of_block q 2; have y3 : w6.cell? ⟨wr.heap.size + 1, 3, none⟩ = some (.slice none 0 0) := cell_of_block q 3; clear q; have S7 := Aside0.mk h; clear h))
                go_roundw
                case rel => exact ⟨k2 + 1, hits, s', t', by go_num, KK, ⟨⟨HK1.out, HK2'.out, AL'.out, HL1.out, by have := HHL.out; omega, U4.out.sw3.drop.sw3.drop⟩⟩⟩
                case measure => simp [intOf]; omega
        · have SS := Aside0.mk st
          have OK1 := Aside0.mk ok1
          have OK2 := Aside0.mk ok2
          have AL := Aside0.mk al
          obtain ⟨ws1, hws1⟩ : ∃ x, s.ws = x := ⟨_, rfl⟩
          obtain ⟨ws2, hws2⟩ : ∃ x, t.ws = x := ⟨_, rfl⟩
          have hl1 : ws1.length = words := by rw [← hws1]; exact len
          have hl2 : ws2.length = words := by rw [← hws2, ← al.len]; exact len
          have HWS1 := Aside0.mk hws1
          have HWS2 := Aside0.mk hws2
          have HL1 := Aside0.mk hl1
          have HL2 := Aside0.mk hl2
          have HAW : Aside0 (∀ i : Nat, (i : Int) ∉ hits → ws1.getD i 0 = ws2.getD i 0) := ⟨by rw [← hws1, ← hws2]; exact al.ws⟩
          clear st ok1 ok2 al len hhl hws1 hws2 hl1 hl2
          go_wp2_with (first
            | (go_at_call 39; have t_ := V1.out; clear t_; refine (St.wordsE (n := words) V1.out.sw3 OK2.out HWS2.out HL2.out).mono ?_; rintro e w6 ⟨A6, c6, rfl, h⟩; have V2 := Aside0.mk h; clear h)
            | (go_at_call 39; refine (St.wordsE (n := words) SS.out.sw1 OK1.out HWS1.out HL1.out).mono ?_; rintro e w5 ⟨A5, c5, rfl, h⟩; have V1 := Aside0.mk h; clear h))
          obtain ⟨r6, rfl⟩ := V2.out.wform HL2.out 0 (by have := HW1.out; omega)
          obtain ⟨r5, rfl⟩ := V2.out.sw2.wform HL1.out 0 (by have := HW1.out; omega)
          clear SS V1
          go_loopw [162] (fun v162 wq => ∃ (i : Nat), v162 = .int .i64 i ∧ Aside0 (i ≤ words) ∧ Aside0 (St w wq [WoA (.slice (some ⟨r6, 0, none⟩) words c6) ws2, MemA b2 t, WoA (.slice (some ⟨r5, 0, none⟩) words c5) ws1, MemA b1 s, MapA b3 hits])) (fun v162 _ => words - (intOf v162).toNat)
          case atStart => exact ⟨0, rfl, ⟨Nat.zero_le _⟩, V2⟩
          case round =>
            obtain ⟨i, rfl, HI, SS⟩ := hrel
            clear V2
            by_cases hii : i < words
            · have x6 := (SS.out.wat HL2.out i hii).1
              have x5 := (SS.out.sw2.wat HL1.out i hii).1
              have hlk := (SS.out.then (below_drew (Below.refl _ _))).sw4.map_at (a := (i : Int)) (by simp [Lit.wf, IntKind.min, IntKind.max, IntKind.bits, IntKind.signed]; omega)
              obtain ⟨cn, hcc⟩ : ∃ cn, hits.count (i : Int) = cn := ⟨_, rfl⟩
              have hcs : (((cn : Int) == 0) = false) ∨ (cn = 0 ∧ ws1.getD i 0 = ws2.getD i 0) := by
                rcases Nat.eq_zero_or_pos cn with h | h
                · exact .inr ⟨h, HAW.out i (fun hh => by have := List.count_pos_iff.2 hh; omega)⟩
                · exact .inl (beq_eq_false_iff_ne.2 (by omega))
              rw [hcc] at hlk
              have KI := Aside0.mk hii
              have S9 := SS
              clear hcc SS
              rcases hcs with hz | ⟨rfl, he⟩
              · go_wp2
                go_region
                all_goals
                  go_wp2
                  go_roundw
                  case rel => exact ⟨i + 1, by go_num, KI, ⟨by first | exact S9.out | exact S9.out.then (pw_below_drewN (Below.refl _ _) _) | exact S9.out.then (below_drew (Below.refl _ _))⟩⟩
                  case measure => simp [intOf]; omega
              · rw [he] at x5
                rw [show (((0 : Nat) : Int)) = 0 from rfl] at hlk
                clear he
                generalize ws2.getD i 0 = u at x5 x6
                go_wp2
                go_region
                all_goals
                  go_wp2
                  go_roundw
                  case rel => exact ⟨i + 1, by go_num, KI, ⟨by first | exact S9.out | exact S9.out.then (pw_below_drewN (Below.refl _ _) _) | exact S9.out.then (below_drew (Below.refl _ _))⟩⟩
                  case measure => simp [intOf]; omega
            · go_wp2
              go_ret
              exact ⟨rfl, SS.out.below⟩
theorem apart_all {words : Int} {n m c d : Nat} {A B : Option Addr} {xs : List S31} {ops : List S64} {w : World} (hr : Kd.C k31 w A n xs) (hx : xs.length = n) (hc : n ≤ c) (hro : Kd.C k64 w B m ops) (hm : ops.length = m) (hd : m ≤ d) (hl : m ≤ 9223372036854775807)
    (ht : ∀ x ∈ xs, x.f3 ≤ 9223372036854775807) (hok : ∀ o ∈ ops, OpOk o) (hwx : ∀ x ∈ xs, (Lit.int .i64 x.f4).wf = true) (hwo : ∀ o ∈ ops, (Lit.int .i64 o.f1).wf = true ∧ ∀ x ∈ o.f3, (Lit.int .i64 x.f4).wf = true) :
    Calls Try.prog 12 #[.int .i64 words, .slice A n c, .slice B m d] w fun e w' => e = .returned (.bool true) ∧ Below w.heap.size w w' := by
  by_cases h : words < 1
  · exact apart_small h
  · cases hf : fewB words n ops with
    | false => exact apart_many hr hx hc hro hm hd hl h hf
    | true =>
      obtain ⟨k, rfl⟩ : ∃ k : Nat, words = k := ⟨words.toNat, by omega⟩
      exact apart_walk hr hx hc hro hm hd hl (by omega) hf ht hok hwx hwo
end Go.Proofs.Ytopmikcljekdiaa.Ag
