/- MemOrder: the walk. -/
import Derived.Test.YtopmikcljekdiaaMemRaw
namespace Go.Proofs.Ytopmikcljekdiaa.Ag
open Go.RowKit Go.Proofs.YtopmikcljekdiaaW.PrintWords Go.Proofs.YtopmikcljekdiaaW.PrintLast Go.Proofs.YtopmikcljekdiaaW.PrintMore Go.Proofs.Ytopmikcljekdiaa.PA Go.Proofs.Ytopmikcljekdiaa.SL
set_option linter.unusedVariables false
set_option maxRecDepth 100000
set_option maxHeartbeats 32000000
theorem order_small {words : Int} {n m c d : Nat} {A B : Option Addr} {w : World} (h : words < 1) : Calls Try.prog 14 #[.int .i64 words, .slice A n c, .slice B m d] w fun e w' => e = .returned (.bool true) ∧ Below w.heap.size w w' := by
  have S0 := Aside0.mk (St.nil w)
  have d1 : decide (words < 1) = true := decide_eq_true h
  clear h
  go_enter Try.func14, Try.ntmps14
  go_wp2_with (go_at_call 30; refine S0.out.mlive.mono ?_; rintro e w1 ⟨rfl, h⟩; have S1 := Aside0.mk h; clear h)
  go_ret
  exact ⟨rfl, S1.out.below⟩
theorem order_many {words : Int} {n m c d : Nat} {A B : Option Addr} {xs : List S31} {ops : List S64} {w : World} (hr : Kd.C k31 w A n xs) (hx : xs.length = n) (hc : n ≤ c) (hro : Kd.C k64 w B m ops) (hm : ops.length = m) (hd : m ≤ d) (hl : m ≤ 9223372036854775807) (h : ¬ words < 1) (hf : fewB words n ops = false) :
    Calls Try.prog 14 #[.int .i64 words, .slice A n c, .slice B m d] w fun e w' => e = .returned (.bool true) ∧ Below w.heap.size w w' := by
  have S0 := Aside0.mk (St.nil w)
  have HR := Aside0.mk hr
  have HO := Aside0.mk hro
  have HX := Aside0.mk hx
  have HM := Aside0.mk hm
  have HFB := Aside0.mk hf
  have HC := Aside0.mk hc
  have HD := Aside0.mk hd
  have HL := Aside0.mk hl
  have d1 : decide (words < 1) = false := decide_eq_false h
  clear h hr hro hx hm hf hc hd hl
  go_enter Try.func14, Try.ntmps14
  go_wp2_with (first
    | (go_at_call 30; refine S0.out.mlive.mono ?_; rintro e w1 ⟨rfl, h⟩; have S1 := Aside0.mk h; clear h)
    | (go_at_call 36; refine (St.few (words := words) S1.out HR.out HX.out HC.out HO.out HM.out HD.out HL.out).mono ?_; rintro e w2 ⟨rfl, h⟩; rw [HFB.out]; have S2 := Aside0.mk h; clear h))
  go_ret
  exact ⟨rfl, S2.out.below⟩
theorem nil_EvA {w0 w : World} {L : List Asn} (h : St w0 w L) : St w0 w (EvA (.slice none 0 0) [] :: L) :=
  h.add (F' := NoF) (Chg.refl w NoF) ⟨fun k hk => hk.elim, own_nil _ _ _ _, fun k hk => by simp [own1, Value.ownBlock] at hk⟩
theorem rev_take (xs : List S31) (k : Nat) (h : k < xs.length) : xs.reverse.take (k + 1) = xs.reverse.take k ++ [rd_T31 xs ((xs.length : Int) - 1 - k)] := by
  rw [List.take_add_one]
  congr 1
  rw [List.getElem?_reverse h]
  have h1 : xs.length - 1 - k < xs.length := by omega
  have h2 : ((xs.length : Int) - 1 - k).toNat = xs.length - 1 - k := by omega
  rw [List.getElem?_eq_getElem h1]
  simp [rd_T31, h2, List.getElem?_eq_getElem h1]
structure OR (w wr : World) (b1 b2 b3 words k : Nat) (s1 s2 : MS) : Prop where
  ok1 : OkM s1 k
  ok2 : OkM s2 k
  alike : Alike s1 s2
  len : s1.ws.length = words
  st : St w wr [MemA b1 s1, MemA b2 s2, RawA b3]
theorem order_walk {words n m c d : Nat} {A B : Option Addr} {xs : List S31} {ops : List S64} {w : World} (hr : Kd.C k31 w A n xs) (hx : xs.length = n) (hc : n ≤ c) (hro : Kd.C k64 w B m ops) (hm : ops.length = m) (hd : m ≤ d) (hl : m ≤ 9223372036854775807) (h : ¬ words < 1) (hf : fewB words n ops = true)
    (ht : ∀ x ∈ xs, x.f3 ≤ 9223372036854775807) (hok : ∀ o ∈ ops, OpOk o) :
    Calls Try.prog 14 #[.int .i64 words, .slice A n c, .slice B m d] w fun e w' => e = .returned (.bool true) ∧ Below w.heap.size w w' := by
  have S0 := Aside0.mk (St.nil w)
  have hfew := few_of hf
  have hw60 : words ≤ 60 := by have := hfew.small; omega
  have hm80 : m ≤ 80 := by have := hfew.short; omega
  have hn40 : n ≤ 40 := hfew.few
  have HN : Aside0 (n ≤ 1024) := ⟨by omega⟩
  have O0 : Aside0 (OkM ⟨List.replicate words 0, xs, 0, 0⟩ 0) := ⟨⟨by simp only; omega, ht, by simp, by simp, by simp; omega⟩⟩
  have O0' : Aside0 (OkM ⟨List.replicate words 0, xs.reverse, 0, 0⟩ 0) := ⟨⟨by simp only [List.length_reverse]; omega, fun x hx => ht x (List.mem_reverse.1 hx), by simp, by simp, by simp; omega⟩⟩
  have HR := Aside0.mk hr
  have HO := Aside0.mk hro
  have HX := Aside0.mk hx
  have HM := Aside0.mk hm
  have HFB := Aside0.mk hf
  have HC := Aside0.mk hc
  have HD := Aside0.mk hd
  have HL := Aside0.mk hl
  have HOK := Aside0.mk hok
  have HW1 : Aside0 (1 ≤ words) := ⟨by omega⟩
  have HW2 : Aside0 (words ≤ 16384) := ⟨by omega⟩
  have HW3 : Aside0 (words ≤ 100000) := ⟨by omega⟩
  have d1 : decide ((words : Int) < 1) = false := decide_eq_false (by omega)
  clear h hr hro hx hm hf hc hd hl ht hok hfew
  go_enter Try.func14, Try.ntmps14
  go_wp2_with (first
    | (go_at_call 30; refine S0.out.mlive.mono ?_; rintro e w1 ⟨rfl, h⟩; have S1 := Aside0.mk h; clear h)
    | (go_at_call 36; refine (St.few (words := words) S1.out HR.out HX.out HC.out HO.out HM.out HD.out HL.out).mono ?_; rintro e w2 ⟨rfl, h⟩; rw [HFB.out]; have S2 := Aside0.mk (nil_EvA h); clear h))
  go_loopw [7, 38] (fun v7 v38 wr => ∃ (k : Nat) (A7 : Option Addr) (c7 : Nat), v7 = .slice A7 k c7 ∧ v38 = .int .i64 k ∧ Aside0 (k ≤ n) ∧ Aside0 (k ≤ c7) ∧ Aside0 (St w wr [EvA (.slice A7 k c7) (xs.reverse.take k)])) (fun _ v38 _ => n - (intOf v38).toNat)
  case atStart => exact ⟨0, none, 0, rfl, rfl, ⟨Nat.zero_le _⟩, ⟨Nat.zero_le _⟩, ⟨by rw [List.take_zero]; exact S2.out⟩⟩
  case round =>
    obtain ⟨k, A7, c7, rfl, rfl, HK, HKC, SS⟩ := hrel
    clear S1 S2
    by_cases hkk : k < n
    · have hkx : k < xs.length := by have := HX.out; omega
      have p0 : (0 : Int) ≤ (n : Int) - 1 - k := by omega
      have p1 : (n : Int) - 1 - k < n := by omega
      obtain ⟨ad, ea, x0, x1, x2, x3, x4, x5⟩ := at_T31 (below_C HR.out SS.out.below) ((n : Int) - 1 - k) p0 p1
      have hi : ((n : Int) - 1 - k).toNat = n - 1 - k := by omega
      rw [hi] at x0 x1 x2 x3 x4 x5
      clear hi
      have hst := rev_take xs k hkx
      rw [HX.out] at hst
      generalize rd_T31 xs ((n : Int) - 1 - k) = x at *
      obtain ⟨f0, f1, f2, f3, f4, f5⟩ := x
      simp only at x0 x1 x2 x3 x4 x5
      subst ea
      obtain ⟨B1, hB1⟩ : ∃ B1 : Obj, B1 = .cells #[.int .i64 f0, .int .i64 f1, .int .i64 f2, .int .i64 f3, .int .i64 f4, .int .u64 f5] 31 := ⟨_, rfl⟩
      have S3 : Aside0 (St w (wr.alloc B1) [EvA (.slice A7 k c7) (xs.reverse.take k)]) := ⟨SS.out.then (below_alloc (Below.refl _ _) B1)⟩
      have HR1 : Aside0 (Kd.C k31 (wr.alloc B1) (some ⟨wr.heap.size, 0, none⟩) 1 [⟨f0, f1, f2, f3, f4, f5⟩]) := ⟨(EvR.of_block (os := [⟨f0, f1, f2, f3, f4, f5⟩]) (by rw [heap_alloc_new, hB1]; rfl) (by simp)).C rfl⟩
      have HLT : Aside0 ((xs.reverse.take k).length = k) := ⟨by rw [List.length_take, List.length_reverse]; omega⟩
      have HLB : Aside0 ((xs.reverse.take k).length + 1 ≤ 100000) := ⟨by have := HLT.out; omega⟩
      have HST := Aside0.mk hst
      have HLS : Aside0 ((xs.reverse.take (k + 1)).length = k + 1) := ⟨by rw [List.length_take, List.length_reverse]; omega⟩
      have KK := Aside0.mk hkk
      replace p0 := eq_true p0
      replace p1 := eq_true p1
      have p2 : (1 : Int) ≤ (n : Int) - k := by omega
      clear hst hkx hkk
      subst hB1
      go_wp2_with (at_builtin; refine St.append (ds := xs.reverse.take (k + 1)) S3.out HR1.out rfl (.tmp 41) (.tmp 50) rfl rfl rfl HLB.out HST.out.symm ?_; intro A2 c2 w2 hc2 h; rw [HLS.out] at hc2 h ⊢; have S4 := Aside0.mk h; have HC2 := Aside0.mk hc2; clear h hc2)
      go_roundw
      case rel => exact ⟨k + 1, A2, c2, rfl, by go_num, KK, HC2, S4⟩
      case measure => simp [intOf]; omega
    · obtain ⟨wo, rfl⟩ : ∃ wo : World, wo = wr := ⟨_, rfl⟩
      have hkn : k = n := by have := HK.out; omega
      subst hkn
      have hfull : xs.reverse.take k = xs.reverse := List.take_of_length_le (by rw [List.length_reverse]; have := HX.out; omega)
      have hss := SS.out
      rw [hfull] at hss
      have HXR : Aside0 (xs.reverse.length = k) := ⟨by rw [List.length_reverse]; exact HX.out⟩
      have HRY := Aside0.mk (hss.read HXR.out)
      have HRX := Aside0.mk (below_C HR.out hss.below)
      have HO' := Aside0.mk (below_C64 HO.out hss.below)
      have HB0 := Aside0.mk hss.below
      have T0 := Aside0.mk (St.nil wo)
      clear hss hfull SS hkk
      go_wp2_with (first
        | (go_at_call 31; refine (T1.out.mnew (n := words) (c := c7) HW1.out HW2.out (below_C HRY.out T1.out.below) HXR.out HN.out).mono ?_; rintro e w3 ⟨b2, rfl, h⟩; have T2 := Aside0.mk h; clear h)
        | (go_at_call 31; refine (T0.out.mnew (n := words) (c := c) HW1.out HW2.out HRX.out HX.out HN.out).mono ?_; rintro e w2 ⟨b1, rfl, h⟩; have T1 := Aside0.mk h; clear h))
      have T3 := Aside0.mk (T2.out.sw1.raw_new.sw2_)
      obtain ⟨b3, hb3⟩ : ∃ b3, w3.heap.size = b3 := ⟨_, rfl⟩
      rw [hb3] at T3 ⊢
      clear hb3 T1 T2
      unfold rawO at T3
      go_loopw [81] (fun v81 wq => ∃ (k2 : Nat) (s1 s2 : MS), v81 = .int .i64 k2 ∧ Aside0 (k2 ≤ m) ∧ Aside0 (OR wo wq b1 b2 b3 words k2 s1 s2)) (fun v81 _ => m - (intOf v81).toNat)
      case atStart => exact ⟨0, _, _, rfl, ⟨Nat.zero_le _⟩, ⟨⟨O0.out, O0'.out, ⟨rfl, (List.reverse_perm xs).symm, rfl, rfl⟩, by simp, T3.out⟩⟩⟩
      case round =>
        obtain ⟨k2, s1, s2, rfl, HK2, HDD⟩ := hrel
        obtain ⟨ok1, ok2, al, len, st⟩ := HDD.out
        by_cases hkk : k2 < m
        · have hkx : k2 < ops.length := by have := HM.out; omega
          obtain ⟨ad, A3, c3, ea, x0, x1, x2, x3, hl3, hi3⟩ := at_T64 HO'.out (k2 : Int) (by omega) (by omega)
          have hrd : rd_T64 ops (k2 : Int) = ops[k2] := by simp [rd_T64, hkx]
          rw [hrd] at x0 x1 x2 x3 hl3 hi3
          rw [Int.toNat_natCast] at x0 x1 x2 x3
          have hoo := HOK.out ops[k2] (List.getElem_mem hkx)
          generalize ops[k2] = o at *
          obtain ⟨kd, a, u, os⟩ := o
          simp only at x0 x1 x2 x3 hl3 hi3
          have g0 := hoo.kind.1
          have g1 := hoo.kind.2
          simp only at g0 g1
          have HTK : Aside0 (∀ x ∈ os, x.f3 ≤ 9223372036854775807) := ⟨hoo.tick⟩
          subst ea
          obtain ⟨n3, hn3⟩ : ∃ n3, os.length = n3 := ⟨_, rfl⟩
          rw [hn3] at x3 hl3 hi3
          have x0 := pw_cell_below st.below x0
          have x1 := pw_cell_below st.below x1
          have x2 := pw_cell_below st.below x2
          have x3 := pw_cell_below st.below x3
          obtain ⟨Bo, hBo⟩ : ∃ Bo : Obj, Bo = .cells #[.int .u8 kd, .int .i64 a, .int .u64 u, .slice A3 n3 c3] 64 := ⟨_, rfl⟩
          obtain ⟨s1', s2', v, f, hdo1, hdo2, al'⟩ := al.op kd a u os
          have S4 : Aside0 (St wo (wr.alloc Bo) [MemA b1 s1, MemA b2 s2, RawA b3, BlkA wr.heap.size Bo]) := ⟨(st.box Bo).perm (((List.Perm.swap _ _ _).trans (((List.Perm.swap _ _ _).cons _))).trans (((List.Perm.swap _ _ _).cons _).cons _))⟩
          have HBo := Aside0.mk hBo
          have HI3 := Aside0.mk hi3
          have HN3 := Aside0.mk hn3
          have HDO1 := Aside0.mk hdo1
          have HDO2 := Aside0.mk hdo2
          have OK1 := Aside0.mk ok1
          have OK2 := Aside0.mk ok2
          have G0 : Aside0 (0 ≤ kd ∧ kd ≤ 255) := ⟨⟨g0, g1⟩⟩
          have hK1 : OkM s1' (k2 + 1) := by have := ok1.op (kd := kd) (a := a) (u := u) (xs := os) hoo.tick; rw [hdo1] at this; exact this
          have hK2 : OkM s2' (k2 + 1) := by have := ok2.op (kd := kd) (a := a) (u := u) (xs := os) hoo.tick; rw [hdo2] at this; exact this
          have hL1 : s1'.ws.length = words := by have := doM_len s1 kd a u os; rw [hdo1] at this; exact this.trans len
          have HK1 := Aside0.mk hK1
          have HK2' := Aside0.mk hK2
          have HL1 := Aside0.mk hL1
          have AL' := Aside0.mk al'
          have K1 : Aside0 (k2 ≤ 100000) := ⟨by omega⟩
          have KK := Aside0.mk hkk
          have hcs : (kd % 4 = 3 ∧ n3 ≤ 1024) ∨ (kd % 4 ≠ 3 ∨ 1024 < n3) := by omega
          clear hrd hkx hi3 hoo hdo1 hdo2 hK1 hK2 hL1 al al' ok1 ok2 len st hn3
          subst hBo
          rcases hcs with ⟨e3, e4⟩ | hno
          · have E3 := Aside0.mk e3
            have E4 := Aside0.mk e4
            have j1 : (kd % 4 != 3) = false := by simpa using e3
            have j2 : decide ((1024 : Int) < (n3 : Int)) = false := decide_eq_false (by omega)
            clear e3 e4
            go_wp2_with (first
              | (go_at_call 37; refine (S7.out.sw2.dorawOk (c := c3) G0.out E3.out (below_C HI3.out S7.out.below) HN3.out E4.out HTK.out).mono ?_; rintro e w8 ⟨rfl, h⟩; have q := (h.sw3).blk; have z0 : w8.cell? ⟨wr.heap.size, 0, none⟩ = some (.int .u8 kd) := cell_of_block q 0; have z1 : w8.cell? ⟨wr.heap.size, 1, none⟩ = some (.int .i64 a) := cell_of_block q 1; have z2 : w8.cell? ⟨wr.heap.size, 2, none⟩ = some (.int .u64 u) := cell_of_block q 2; have z3 : w8.cell? ⟨wr.heap.size, 3, none⟩ = some (.slice A3 n3 c3) := cell_of_block q 3; clear q; have S8 := Aside0.mk h.sw2_; clear h)
              | (go_at_call 37; have t6 := S6.out; clear t6; refine (donil (A := A3) (n := n3) (c := c3) G0.out).mono ?_; rintro e w7 ⟨rfl, hb⟩; have h := S6.out.then hb; have q := (h.sw3).blk; have z0 : w7.cell? ⟨wr.heap.size, 0, none⟩ = some (.int .u8 kd) := cell_of_block q 0; have z1 : w7.cell? ⟨wr.heap.size, 1, none⟩ = some (.int .i64 a) := cell_of_block q 1; have z2 : w7.cell? ⟨wr.heap.size, 2, none⟩ = some (.int .u64 u) := cell_of_block q 2; have z3 : w7.cell? ⟨wr.heap.size, 3, none⟩ = some (.slice A3 n3 c3) := cell_of_block q 3; clear q; have S7 := Aside0.mk h; clear h hb)
              | (go_at_call 37; refine (S5.out.sw1.doAny (c := c3) OK2.out K1.out G0.out (below_C HI3.out S5.out.below) HN3.out HDO2.out).mono ?_; rintro e w6 ⟨rfl, h⟩; have q := (h.sw3).blk; have z0 : w6.cell? ⟨wr.heap.size, 0, none⟩ = some (.int .u8 kd) := cell_of_block q 0; have z1 : w6.cell? ⟨wr.heap.size, 1, none⟩ = some (.int .i64 a) := cell_of_block q 1; have z2 : w6.cell? ⟨wr.heap.size, 2, none⟩ = some (.int .u64 u) := cell_of_block q 2; have z3 : w6.cell? ⟨wr.heap.size, 3, none⟩ = some (.slice A3 n3 c3) := cell_of_block q 3; clear q; have S6 := Aside0.mk h.sw1; clear h)
              | (go_at_call 37; refine (S4.out.doAny (c := c3) OK1.out K1.out G0.out (below_C HI3.out S4.out.below) HN3.out HDO1.out).mono ?_; rintro e w5 ⟨rfl, h⟩; have q := (h.sw3).blk; have z0 : w5.cell? ⟨wr.heap.size, 0, none⟩ = some (.int .u8 kd) := cell_of_block q 0; have z1 : w5.cell? ⟨wr.heap.size, 1, none⟩ = some (.int .i64 a) := cell_of_block q 1; have z2 : w5.cell? ⟨wr.heap.size, 2, none⟩ = some (.int .u64 u) := cell_of_block q 2; have z3 : w5.cell? ⟨wr.heap.size, 3, none⟩ = some (.slice A3 n3 c3) := cell_of_block q 3; clear q; have S5 := Aside0.mk h; clear h))
            go_roundw
            case rel => exact ⟨k2 + 1, s1', s2', by go_num, KK, ⟨⟨HK1.out, HK2'.out, AL'.out, HL1.out, S8.out.sw3.drop⟩⟩⟩
            case measure => simp [intOf]; omega
          · have HNO := Aside0.mk hno
            clear hno
            go_wp2_with (first
              | (go_at_call 37; refine (S7.out.sw2.dorawNo (c := c3) G0.out HNO.out (below_C HI3.out S7.out.below) HN3.out).mono ?_; rintro e w8 ⟨rfl, h⟩; have q := (h.sw3).blk; have z0 : w8.cell? ⟨wr.heap.size, 0, none⟩ = some (.int .u8 kd) := cell_of_block q 0; have z1 : w8.cell? ⟨wr.heap.size, 1, none⟩ = some (.int .i64 a) := cell_of_block q 1; have z2 : w8.cell? ⟨wr.heap.size, 2, none⟩ = some (.int .u64 u) := cell_of_block q 2; have z3 : w8.cell? ⟨wr.heap.size, 3, none⟩ = some (.slice A3 n3 c3) := cell_of_block q 3; clear q; have S8 := Aside0.mk h.sw2_; clear h)
              | (go_at_call 37; have t6 := S6.out; clear t6; refine (donil (A := A3) (n := n3) (c := c3) G0.out).mono ?_; rintro e w7 ⟨rfl, hb⟩; have h := S6.out.then hb; have q := (h.sw3).blk; have z0 : w7.cell? ⟨wr.heap.size, 0, none⟩ = some (.int .u8 kd) := cell_of_block q 0; have z1 : w7.cell? ⟨wr.heap.size, 1, none⟩ = some (.int .i64 a) := cell_of_block q 1; have z2 : w7.cell? ⟨wr.heap.size, 2, none⟩ = some (.int .u64 u) := cell_of_block q 2; have z3 : w7.cell? ⟨wr.heap.size, 3, none⟩ = some (.slice A3 n3 c3) := cell_of_block q 3; clear q; have S7 := Aside0.mk h; clear h hb)
              | (go_at_call 37; refine (S5.out.sw1.doAny (c := c3) OK2.out K1.out G0.out (below_C HI3.out S5.out.below) HN3.out HDO2.out).mono ?_; rintro e w6 ⟨rfl, h⟩; have q := (h.sw3).blk; have z0 : w6.cell? ⟨wr.heap.size, 0, none⟩ = some (.int .u8 kd) := cell_of_block q 0; have z1 : w6.cell? ⟨wr.heap.size, 1, none⟩ = some (.int .i64 a) := cell_of_block q 1; have z2 : w6.cell? ⟨wr.heap.size, 2, none⟩ = some (.int .u64 u) := cell_of_block q 2; have z3 : w6.cell? ⟨wr.heap.size, 3, none⟩ = some (.slice A3 n3 c3) := cell_of_block q 3; clear q; have S6 := Aside0.mk h.sw1; clear h)
              | (go_at_call 37; refine (S4.out.doAny (c := c3) OK1.out K1.out G0.out (below_C HI3.out S4.out.below) HN3.out HDO1.out).mono ?_; rintro e w5 ⟨rfl, h⟩; have q := (h.sw3).blk; have z0 : w5.cell? ⟨wr.heap.size, 0, none⟩ = some (.int .u8 kd) := cell_of_block q 0; have z1 : w5.cell? ⟨wr.heap.size, 1, none⟩ = some (.int .i64 a) := cell_of_block q 1; have z2 : w5.cell? ⟨wr.heap.size, 2, none⟩ = some (.int .u64 u) := cell_of_block q 2; have z3 : w5.cell? ⟨wr.heap.size, 3, none⟩ = some (.slice A3 n3 c3) := cell_of_block q 3; clear q; have S5 := Aside0.mk h; clear h))
            go_roundw
            case rel => exact ⟨k2 + 1, s1', s2', by go_num, KK, ⟨⟨HK1.out, HK2'.out, AL'.out, HL1.out, S8.out.sw3.drop⟩⟩⟩
            case measure => simp [intOf]; omega
        · have HWS : Aside0 (s2.ws = s1.ws) := ⟨al.ws.symm⟩
          have HWS1 : Aside0 (s1.ws = s1.ws) := ⟨rfl⟩
          have LEN := Aside0.mk len
          have OK1 := Aside0.mk ok1
          have OK2 := Aside0.mk ok2
          have TT := Aside0.mk st
          clear al len ok1 ok2 st
          go_wp2_with (first
            | (go_at_call 44; have t_ := V8.out; clear t_; refine V8.out.rticks.mono ?_; rintro e w9 ⟨rfl, hw⟩; obtain rfl := hw.symm)
            | (go_at_call 35; have t_ := V7.out; clear t_; refine V7.out.rall.mono ?_; rintro e w8 ⟨rfl, h⟩; have V8 := Aside0.mk h; clear h)
            | (go_at_call 39; have t_ := V6.out; clear t_; refine V6.out.rwords.mono ?_; rintro e w7 ⟨A7b, c7b, rfl, h⟩; have V7 := Aside0.mk h; clear h)
            | (go_at_call 35; have t_ := V5.out; clear t_; refine all_nil.mono ?_; rintro e w6b ⟨rfl, hw⟩; obtain rfl := hw.symm; have V6 := V5)
            | (go_at_call 44; have t_ := V4.out; clear t_; refine ticks_nil.mono ?_; rintro e w6b ⟨rfl, hw⟩; obtain rfl := hw.symm; have V5 := V4)
            | (go_at_call 39; have t_ := V3.out; clear t_; refine words_nil.mono ?_; rintro e w6b ⟨rfl, hw⟩; obtain rfl := hw.symm; have V4 := V3)
            | (go_at_call 38; refine (St.sameW U2.out.sw2 U2.out LEN.out HW3.out).mono ?_; rintro e w7 ⟨rfl, h⟩; have V3 := Aside0.mk (h.drop.drop.sw2); clear h)
            | (go_at_call 39; have t_ := U1.out; clear t_; refine (St.wordsE (n := words) U1.out.sw2 OK2.out HWS.out LEN.out).mono ?_; rintro e w6 ⟨A6, c6, rfl, h⟩; have U2 := Aside0.mk h; clear h)
            | (go_at_call 39; refine (St.wordsE (n := words) TT.out OK1.out HWS1.out LEN.out).mono ?_; rintro e w5 ⟨A5, c5, rfl, h⟩; have U1 := Aside0.mk h; clear h))
          go_ret
          have hb := V8.out.below
          refine ⟨rfl, below_then HB0.out HB0.out.size hb⟩
theorem order_all {words : Int} {n m c d : Nat} {A B : Option Addr} {xs : List S31} {ops : List S64} {w : World} (hr : Kd.C k31 w A n xs) (hx : xs.length = n) (hc : n ≤ c) (hro : Kd.C k64 w B m ops) (hm : ops.length = m) (hd : m ≤ d) (hl : m ≤ 9223372036854775807)
    (ht : ∀ x ∈ xs, x.f3 ≤ 9223372036854775807) (hok : ∀ o ∈ ops, OpOk o) :
    Calls Try.prog 14 #[.int .i64 words, .slice A n c, .slice B m d] w fun e w' => e = .returned (.bool true) ∧ Below w.heap.size w w' := by
  by_cases h : words < 1
  · exact order_small h
  · cases hf : fewB words n ops with
    | false => exact order_many hr hx hc hro hm hd hl h hf
    | true =>
      obtain ⟨k, rfl⟩ : ∃ k : Nat, words = k := ⟨words.toNat, by omega⟩
      exact order_walk hr hx hc hro hm hd hl (by omega) hf ht hok
end Go.Proofs.Ytopmikcljekdiaa.Ag
