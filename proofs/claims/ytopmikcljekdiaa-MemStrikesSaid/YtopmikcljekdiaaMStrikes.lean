/- MemStrikes: the walk. -/
import Derived.Test.YtopmikcljekdiaaMStrike
namespace Go.Proofs.Ytopmikcljekdiaa.Ag
open Go.RowKit Go.Proofs.YtopmikcljekdiaaW.PrintWords Go.Proofs.YtopmikcljekdiaaW.PrintLast Go.Proofs.YtopmikcljekdiaaW.PrintMore Go.Proofs.Ytopmikcljekdiaa.PA Go.Proofs.Ytopmikcljekdiaa.SL
set_option linter.unusedVariables false
set_option maxRecDepth 100000
set_option maxHeartbeats 16000000
/-- A row of numbers that came in. -/
def IsRow (k : IntKind) (w : World) (a : Option Addr) (len cap : Nat) (zs : List Int) : Prop :=
  (a = none ∧ len = 0 ∧ cap = 0 ∧ zs = []) ∨
  ∃ x, a = some x ∧ len ≤ cap ∧ cap ≤ maxLen ∧ zs.length = cap ∧ (∀ i, i < zs.length → w.cell? (x.add i) = some (.int k (zs.getD i 0))) ∧ ∀ n ∈ zs, (Lit.int k n).wf = true
theorem IsRow.reads {k : IntKind} {w : World} {a : Option Addr} {len cap : Nat} {zs : List Int} (h : IsRow k w a len cap zs) : ReadsInt w k a len (zs.take len) := by
  rcases h with ⟨rfl, rfl, rfl, rfl⟩ | ⟨x, rfl, h1, h2, h3, h4, h5⟩
  · exact ⟨rfl, by omega, fun h => by omega⟩
  · have h2' : cap ≤ 9223372036854775807 := h2
    refine ⟨by rw [List.length_take]; omega, by omega, fun _ => ⟨x, rfl, fun j hj => ?_⟩⟩
    rw [h4 j (by omega), List.getD_eq_getElem?_getD, List.getD_eq_getElem?_getD, List.getElem?_take_of_lt hj]
theorem IsRow.wf {k : IntKind} {w : World} {a : Option Addr} {len cap : Nat} {zs : List Int} (h : IsRow k w a len cap zs) : ∀ z ∈ zs.take len, (Lit.int k z).wf = true := by
  rcases h with ⟨rfl, rfl, rfl, rfl⟩ | ⟨x, rfl, h1, h2, h3, h4, h5⟩
  · simp
  · exact fun z hz => h5 z (List.mem_of_mem_take hz)
theorem strikes_small {n m k c d e : Nat} {A B T : Option Addr} {w : World} (h : n < 1 ∨ 60 < n ∨ 40 < m ∨ 60 < k) : Calls Try.prog 15 #[.slice A n c, .slice B m d, .slice T k e] w fun e w' => e = .returned (.bool true) ∧ Below w.heap.size w w' := by
  have S0 := Aside0.mk (St.nil w)
  have hcs : decide ((n : Int) < 1) = true ∨ (decide ((n : Int) < 1) = false ∧ decide ((60 : Int) < (n : Int)) = true) ∨ (decide ((n : Int) < 1) = false ∧ decide ((60 : Int) < (n : Int)) = false ∧ decide ((40 : Int) < (m : Int)) = true) ∨
      (decide ((n : Int) < 1) = false ∧ decide ((60 : Int) < (n : Int)) = false ∧ decide ((40 : Int) < (m : Int)) = false ∧ decide ((60 : Int) < (k : Int)) = true) := by
    simp only [decide_eq_true_eq, decide_eq_false_iff_not]
    omega
  clear h
  rcases hcs with d1 | ⟨d1, d2⟩ | ⟨d1, d2, d3⟩ | ⟨d1, d2, d3, d4⟩
  all_goals
    go_enter Try.func15, Try.ntmps15
    go_wp2_with (go_at_call 30; refine S0.out.mlive.mono ?_; rintro e w1 ⟨rfl, h⟩; have S1 := Aside0.mk h; clear h)
    go_ret
    exact ⟨rfl, S1.out.below⟩
/-- Words stored one by one. -/
theorem fill_step (words : List Int) (k : Nat) (h : k < words.length) : (words.take k ++ List.replicate (words.length - k) 0).set k words[k] = words.take (k + 1) ++ List.replicate (words.length - (k + 1)) 0 := by
  refine list_ext (by simp; omega) (fun i hi => ?_)
  simp only [List.length_set, List.length_append, List.length_take, List.length_replicate] at hi
  rw [List.getD_eq_getElem?_getD, List.getD_eq_getElem?_getD, List.getElem?_set]
  by_cases h1 : k = i
  · subst h1
    rw [if_pos rfl, if_pos (by simp; omega), List.getElem?_append_left (by simp; omega), List.getElem?_take_of_lt (by omega), List.getElem?_eq_getElem h]
  · rw [if_neg h1]
    rcases Nat.lt_or_ge i k with h2 | h2
    · rw [List.getElem?_append_left (by simp; omega), List.getElem?_append_left (by simp; omega), List.getElem?_take_of_lt (by omega), List.getElem?_take_of_lt (by omega)]
    · rw [List.getElem?_append_right (by simp; omega), List.getElem?_append_right (by simp; omega)]
      simp only [List.length_take, List.getElem?_replicate]
      rw [if_pos (by omega), if_pos (by omega)]
/-- What the window comes to, whatever is loaded. -/
theorem accM_all (m : MS) : stkL (accM m).ws (accM m).evs = stkL m.ws m.evs := by
  show stkL (stkL m.ws (m.evs.filter (upto m.tk))) (m.evs.filter (past m.tk)) = _
  rw [← stkL_app]
  exact stkL_perm (List.filter_append_perm (upto m.tk) m.evs) _
theorem doM_load_all (m : MS) (a : Int) : ∃ s' v f, doM m 0 a 0 [] = (s', v, f) ∧ stkL s'.ws s'.evs = stkL m.ws m.evs := by
  unfold doM
  rw [if_neg (by decide), if_neg (by decide)]
  by_cases h : inM m a = true
  · rw [if_pos h]; exact ⟨_, _, _, rfl, accM_all m⟩
  · rw [if_neg h]; exact ⟨_, _, _, rfl, rfl⟩
/-- The memory behind so many stores. -/
def fillM (words : List Int) (k : Nat) : MS := ⟨words.take k ++ List.replicate (words.length - k) 0, [], k, 0⟩
theorem fillM_step (words : List Int) (k : Nat) (h : k < words.length) : setM (accM (fillM words k)) (k : Int) words[k] = fillM words (k + 1) := by
  have := fill_step words k h
  simp [setM, accM, fillM, stkL, this]
theorem fillM_ok (words : List Int) (k : Nat) (h : k ≤ words.length) (hl : words.length ≤ 60) : OkM (fillM words k) k := by
  refine ⟨by simp [fillM], by simp [fillM], by simp [fillM], by simp [fillM], ?_⟩
  simp only [fillM, List.length_append, List.length_take, List.length_replicate]
  omega
theorem fillM_in (words : List Int) (k : Nat) (h : k < words.length) : inM (fillM words k) (k : Int) = true := by
  refine inM_iff.2 ⟨by omega, ?_⟩
  simp only [fillM, List.length_append, List.length_take, List.length_replicate]
  omega
theorem fillM_end (words : List Int) (l : List S31) : nextM (fillM words words.length) l = ⟨words, l, 0, words.length⟩ := by
  simp [nextM, fillM, stkL]
theorem load_any {w0 w : World} {L : List Asn} {b k : Nat} {s s' : MS} {a v f : Int} (h : St w0 w (MemA b s :: L)) (hk : OkM s k) (hk2 : k ≤ 100000) (hd : doM s 0 a 0 [] = (s', v, f)) :
    Calls Try.prog 34 #[.pointer (some ⟨b, 0, none⟩), .int .i64 a] w fun e w' => e = .returned (.tuple #[.int .u64 v, .int .i64 f]) ∧ St w0 w' (MemA b s' :: L) := by
  unfold doM at hd
  rw [if_neg (by decide), if_neg (by decide)] at hd
  by_cases ha : inM s a = true
  · rw [if_pos ha] at hd
    cases hd
    exact h.load hk hk2 ha
  · rw [if_neg ha] at hd
    cases hd
    exact h.loadOut hk (by simpa using ha)
theorem load_ways {s s' : MS} {a v f : Int} (hd : doM s 0 a 0 [] = (s', v, f)) : ((0 ≤ a ∧ a < s.ws.length) ∧ f = 0) ∨ (¬ (0 ≤ a ∧ a < s.ws.length) ∧ f = 1) := by
  unfold doM at hd
  rw [if_neg (by decide), if_neg (by decide)] at hd
  by_cases ha : inM s a = true
  · rw [if_pos ha] at hd
    cases hd
    exact .inl ⟨inM_iff.1 ha, rfl⟩
  · rw [if_neg ha] at hd
    cases hd
    exact .inr ⟨fun h => ha (inM_iff.2 h), rfl⟩
structure SR (w wr : World) (b : Nat) (words : List Int) (l : List S31) (k : Nat) (s : MS) : Prop where
  ok : OkM s k
  len : s.ws.length = words.length
  all : stkL s.ws s.evs = stkL words l
  st : St w wr [MemA b s]
theorem strikes_walk {n m k c d e : Nat} {ad : Addr} {B T : Option Addr} {words : List Int} {xs : List S31} {zs : List Int} {w : World} (hw : ReadsInt w .u64 (some ad) n words) (h64 : ∀ x ∈ words, W64 x) (hn : 1 ≤ n) (hn2 : n ≤ 60)
    (hr : Kd.C k31 w B m xs) (hx : xs.length = m) (hm : m ≤ 40) (ht : ∀ x ∈ xs, x.f3 ≤ 9223372036854775807) (hz : ReadsInt w .i64 T k zs) (hk : k ≤ 60) :
    Calls Try.prog 15 #[.slice (some ad) n c, .slice B m d, .slice T k e] w fun e w' => e = .returned (.bool true) ∧ Below w.heap.size w w' := by
  have S0 := Aside0.mk (St.nil w)
  have d1 : decide ((n : Int) < 1) = false := decide_eq_false (by omega)
  have d2 : decide ((60 : Int) < (n : Int)) = false := decide_eq_false (by omega)
  have d3 : decide ((40 : Int) < (m : Int)) = false := decide_eq_false (by omega)
  have d4 : decide ((60 : Int) < (k : Int)) = false := decide_eq_false (by omega)
  have HL : Aside0 (words.length = n) := ⟨hw.1⟩
  have HWD := Aside0.mk hw
  have H64 := Aside0.mk h64
  have HR := Aside0.mk hr
  have HX := Aside0.mk hx
  have HM : Aside0 (m ≤ 1024) := ⟨by omega⟩
  have HN3 : Aside0 (n ≤ 16384) := ⟨by omega⟩
  have HT := Aside0.mk ht
  have HZ := Aside0.mk hz
  have HN1 := Aside0.mk hn
  clear hw h64 hr hx ht hz hn
  go_enter Try.func15, Try.ntmps15
  go_wp2_with (first
    | (go_at_call 30; refine S0.out.mlive.mono ?_; rintro e w1 ⟨rfl, h⟩; have S1 := Aside0.mk h; clear h)
    | (go_at_call 31; refine (S1.out.mnew (n := n) (c := 0) HN1.out HN3.out nil_C31 rfl (Nat.zero_le _)).mono ?_; rintro e w3 ⟨b, rfl, h⟩; have S3 := Aside0.mk h; clear h))
  go_loopw [51] (fun v51 wr => ∃ (i : Nat), v51 = .int .i64 i ∧ Aside0 (i ≤ n) ∧ Aside0 (St w wr [MemA b (fillM words i)])) (fun v51 _ => n - (intOf v51).toNat)
  case atStart => exact ⟨0, rfl, ⟨Nat.zero_le _⟩, ⟨by have h := S3.out; unfold fillM; rw [HL.out]; simpa using h⟩⟩
  case round =>
    obtain ⟨i, rfl, HK, SS⟩ := hrel
    clear S1 S3
    by_cases hin : i < n
    · obtain ⟨a1, e1, x1⟩ := (HWD.out.below SS.out.below).at_ (i : Int) (by omega) (by omega)
      rw [Int.toNat_natCast] at x1
      cases e1
      have hlt : i < words.length := by have := HL.out; omega
      have hrd : rd words (i : Int) = words[i] := by simp [rd, hlt]
      rw [hrd] at x1
      have hst := SS.out.store (v := words[i]) (k := i) (fillM_ok words i (by omega) (by have := HL.out; omega)) (by omega) (fillM_in words i hlt)
      rw [fillM_step words i hlt] at hst
      have KK := Aside0.mk hin
      generalize words[i] = u at *
      have HST := Aside0.mk hst
      clear hst hrd hlt
      go_wp2_with (go_at_call 32; refine HST.out.mono ?_; rintro e w5 ⟨rfl, h⟩; have S5 := Aside0.mk h; clear h)
      go_roundw
      case rel => exact ⟨i + 1, by go_num, KK, S5⟩
      case measure => simp [intOf]; omega
    · have hin2 : i = n := by have := HK.out; omega
      subst hin2
      have hnx := SS.out.next_ (k := i) (c := d) (fillM_ok words i (by have := HL.out; omega) (by have := HL.out; omega)) (by omega) (below_C HR.out SS.out.below) HX.out HM.out
      have hfe : nextM (fillM words i) xs = ⟨words, xs, 0, i⟩ := by have h := fillM_end words xs; rw [HL.out] at h; exact h
      rw [hfe] at hnx
      have HNX := Aside0.mk hnx
      clear hnx hfe hin
      go_wp2_with (go_at_call 33; refine HNX.out.mono ?_; rintro e w5 ⟨rfl, h⟩; have S5 := Aside0.mk h; clear h)
      go_loopw [68] (fun v68 wr => ∃ (j : Nat) (s : MS), v68 = .int .i64 j ∧ Aside0 (j ≤ k) ∧ Aside0 (SR w wr b words xs (i + j) s)) (fun v68 _ => k - (intOf v68).toNat)
      case atStart => exact ⟨0, _, rfl, ⟨Nat.zero_le _⟩, ⟨⟨⟨by simp only; have := HX.out; omega, HT.out, by simp, by simp, by simp only; have := HL.out; omega⟩, rfl, rfl, S5.out⟩⟩⟩
      case round =>
        obtain ⟨j, s, rfl, HJ, HD⟩ := hrel
        obtain ⟨kok, klen, kall, kst⟩ := HD.out
        clear S5 SS
        by_cases hjk : j < k
        · obtain ⟨a1, e1, x1⟩ := (HZ.out.below kst.below).at_ (j : Int) (by omega) (by omega)
          rw [Int.toNat_natCast] at x1
          subst e1
          generalize rd zs (j : Int) = a at *
          obtain ⟨s', v, f, hdo, hall⟩ := doM_load_all s a
          have HLD := Aside0.mk (load_any kst kok (by omega) hdo)
          have hw2 := load_ways hdo
          have hkl : OkM s' (i + j + 1) := by have := kok.op (kd := 0) (a := a) (u := 0) (xs := []) (by simp); rw [hdo] at this; exact this
          have hll : s'.ws.length = words.length := by have := doM_len s 0 a 0 []; rw [hdo] at this; exact this.trans klen
          have KOK := Aside0.mk hkl
          have KLL := Aside0.mk hll
          have KAL : Aside0 (stkL s'.ws s'.evs = stkL words xs) := ⟨hall.trans kall⟩
          rw [klen, HL.out] at hw2
          have hcs : ((decide (0 ≤ a) = true ∧ decide (a < (i : Int)) = true) ∧ f = 0) ∨ (decide (0 ≤ a) = false ∧ f = 1) ∨ ((decide (0 ≤ a) = true ∧ decide (a < (i : Int)) = false) ∧ f = 1) := by
            simp only [decide_eq_true_eq, decide_eq_false_iff_not]
            omega
          have KK := Aside0.mk hjk
          clear hdo hall hw2 hkl hll kok klen kall kst
          rcases hcs with ⟨⟨j1, j2⟩, rfl⟩ | ⟨j1, rfl⟩ | ⟨⟨j1, j2⟩, rfl⟩
          all_goals
            go_wp2_with (go_at_call 34; refine HLD.out.mono ?_; rintro e w6 ⟨rfl, h⟩; have S6 := Aside0.mk h; clear h)
            go_roundw
            case rel => exact ⟨j + 1, s', by go_num, KK, ⟨⟨KOK.out, KLL.out, KAL.out, S6.out⟩⟩⟩
            case measure => simp [intOf]; omega
        · have HSTR := Aside0.mk (strike48_calls (c := d) (d := c) (below_C HR.out kst.below) HX.out HM.out (HWD.out.below kst.below) HN3.out H64.out)
          have KST := Aside0.mk kst
          have hwe : (nextM s []).ws = stkL words xs := kall
          have hln : (stkL words xs).length = i := by rw [stkL_len]; exact HL.out
          have HWE := Aside0.mk hwe
          have HLN := Aside0.mk hln
          have KOK := Aside0.mk kok
          have HOKN : Aside0 (OkM (nextM s []) (i + j + 1)) := ⟨kok.next (by simp) (by simp)⟩
          have HB1 : Aside0 (i + j ≤ 100000) := ⟨by have := HJ.out; omega⟩
          have HB2 : Aside0 (i ≤ 100000) := ⟨by omega⟩
          clear kok klen kall kst hwe hln
          go_wp2_with (first
            | (go_at_call 38; refine (St.sameW S8.out S8.out.sw2 HLN.out HB2.out).mono ?_; rintro e w9 ⟨rfl, h⟩; have S9 := Aside0.mk h; clear h)
            | (go_at_call 39; refine (St.wordsE (n := i) S7.out HOKN.out HWE.out HLN.out).mono ?_; rintro e w8 ⟨A8, c8, rfl, h⟩; have S8 := Aside0.mk h; clear h)
            | (go_at_call 33; refine (S6.out.sw1.next_ (c := 0) (xs := []) KOK.out HB1.out nil_C31 rfl (Nat.zero_le _)).mono ?_; rintro e w7 ⟨rfl, h⟩; have S7 := Aside0.mk h; clear h)
            | (go_at_call 48; refine HSTR.out.mono ?_; rintro e w6 ⟨A6, c6, rfl, h⟩; have S6 := Aside0.mk (KST.out.frame h); clear h))
          go_ret
          exact ⟨rfl, S9.out.below⟩
theorem strikes_all {n m k c d e : Nat} {A B T : Option Addr} {words : List Int} {xs : List S31} {zs : List Int} {w : World} (hw : IsRow .u64 w A n c words) (hr : Kd.C k31 w B m xs) (hx : xs.length = m) (ht : ∀ x ∈ xs, x.f3 ≤ 9223372036854775807) (hz : IsRow .i64 w T k e zs) :
    Calls Try.prog 15 #[.slice A n c, .slice B m d, .slice T k e] w fun e w' => e = .returned (.bool true) ∧ Below w.heap.size w w' := by
  by_cases h : n < 1 ∨ 60 < n ∨ 40 < m ∨ 60 < k
  · exact strikes_small h
  · obtain ⟨ad, rfl, _⟩ := hw.reads.2.2 (by omega)
    refine strikes_walk hw.reads (fun x hx => ?_) (by omega) (by omega) hr hx (by omega) ht hz.reads (by omega)
    have := bounds_u64 (hw.wf x hx)
    exact ⟨this.1, this.2⟩
end Go.Proofs.Ytopmikcljekdiaa.Ag
