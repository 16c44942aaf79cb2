/- AgendaAll: the walk. -/
import Derived.Test.YtopmikcljekdiaaAgApp
import Derived.Test.YtopmikcljekdiaaAgFullA
import Derived.OpenShut
namespace Go.Proofs.Ytopmikcljekdiaa.Ag
open Go.RowKit Go.Proofs.YtopmikcljekdiaaW.PrintWords Go.Proofs.YtopmikcljekdiaaW.PrintLast Go.Proofs.YtopmikcljekdiaaW.PrintMore Go.Proofs.Ytopmikcljekdiaa.PA Go.Proofs.Ytopmikcljekdiaa.SL
set_option linter.unusedVariables false
set_option maxRecDepth 100000
set_option maxHeartbeats 16000000
def IsRow (k : IntKind) (w : World) (a : Option Addr) (len cap : Nat) (zs : List Int) : Prop :=
  (a = none ∧ len = 0 ∧ cap = 0 ∧ zs = []) ∨
  ∃ x, a = some x ∧ len ≤ cap ∧ cap ≤ maxLen ∧ zs.length = cap ∧ (∀ i, i < zs.length → w.cell? (x.add i) = some (.int k (zs.getD i 0))) ∧ ∀ n ∈ zs, (Lit.int k n).wf = true
theorem IsRow.at {k : IntKind} {w W : World} {a : Option Addr} {len cap : Nat} {zs : List Int} (h : IsRow k w a len cap zs) (hb : Below w.heap.size w W) (i : Nat) (hi : i < len) : ∃ x, a = some x ∧ W.cell? (x.add i) = some (.int k (zs.getD i 0)) := by
  rcases h with ⟨_, h, _⟩ | ⟨x, hx, hl, _, hz, hc, _⟩
  · omega
  · exact ⟨x, hx, pw_cell_below hb (hc i (by omega))⟩
theorem all_many {n m c d : Nat} {A T : Option Addr} {w : World} (hn : 40 < n ∨ 12 < m) : Calls Try.prog 6 #[.slice A n c, .slice T m d] w fun e w' => e = .returned (.bool true) ∧ Below w.heap.size w w' := by
  have S0 := Aside0.mk (St.nil w)
  by_cases h40 : 40 < n
  · have hgt : decide ((40 : Int) < (n : Int)) = true := decide_eq_true (by omega)
    clear hn
    go_enter Try.func6, Try.ntmps6
    go_wp2_with (go_at_call 16; refine S0.out.live.mono ?_; rintro e w1 ⟨rfl, h⟩; have S1 := Aside0.mk h; clear h)
    go_ret
    exact ⟨rfl, S1.out.below⟩
  · have hgt : decide ((40 : Int) < (n : Int)) = false := decide_eq_false (by omega)
    have hgt2 : decide ((12 : Int) < (m : Int)) = true := decide_eq_true (by omega)
    clear hn
    go_enter Try.func6, Try.ntmps6
    go_wp2_with (go_at_call 16; refine S0.out.live.mono ?_; rintro e w1 ⟨rfl, h⟩; have S1 := Aside0.mk h; clear h)
    go_ret
    exact ⟨rfl, S1.out.below⟩
attribute [local go_sem high] eqA31
def eqE (y x : S31) : Bool := y.f0 == x.f0 && (y.f1 == x.f1 && (y.f2 == x.f2 && (y.f3 == x.f3 && (y.f4 == x.f4 && (y.f5 == x.f5)))))
def cntE (x : S31) (l : List S31) : Nat := l.countP (fun y => eqE y x)
theorem cnt_step {x : S31} {l : List S31} {i : Nat} (h : i < l.length) : cntE x (l.take (i + 1)) = cntE x (l.take i) + (if eqE l[i] x = true then 1 else 0) := by
  unfold cntE
  rw [List.take_add_one, List.getElem?_eq_getElem h, List.countP_append]
  simp [List.countP_cons]
theorem cnt_le {x : S31} {l : List S31} {i : Nat} : cntE x (l.take i) ≤ i := by
  have h1 : cntE x (l.take i) ≤ (l.take i).length := List.countP_le_length
  have h2 : (l.take i).length ≤ i := by rw [List.length_take]; omega
  omega
theorem add_nil {w0 w : World} {L : List Asn} (h : St w0 w L) : St w0 w (EvA (.slice none 0 0) [] :: L) :=
  h.add (F' := NoF) (Chg.refl _ _) ⟨fun k hk => hk.elim, own_nil _ _ _ _, fun k hk => by simp [own1, Value.ownBlock] at hk⟩
/-- Between two ticks. -/
structure AllRel (w wr : World) (xs : List S31) (n g : Nat) (pv : Int) (A7 : Option Addr) (c7 : Nat) (told : List S31) (es : List S81) : Prop where
  st : St w wr [EvA (.slice A7 told.length c7) told, AgA g es pv]
  cap : told.length ≤ c7
  len : told.length + es.length = n
  perm : (told ++ es.map (·.f0)).Perm xs
theorem all_walk {n m c d : Nat} {A T : Option Addr} {xs : List S31} {zs : List Int} {w : World} (hx : xs.length = n) (hn : n ≤ 40) (hc : n ≤ c) (hr : Kd.C k31 w A n xs) (hm : ∀ x ∈ xs, x.f3 ≤ 9223372036854775807) (hz : IsRow .i64 w T m d zs) (hm12 : m ≤ 12) :
    Calls Try.prog 6 #[.slice A n c, .slice T m d] w fun e w' => e = .returned (.bool true) ∧ Below w.heap.size w w' := by
  have S0 := Aside0.mk (St.nil w)
  obtain ⟨P, pv, hP⟩ : ∃ P pv, pushN ([], 0) xs = (P, pv) := ⟨_, _, rfl⟩
  have hPl : P.length = n := by have := (pushN_len xs ([], 0)).1; rw [hP] at this; simpa [hx] using this
  have hPp : (P.map (·.f0)).Perm xs := by have := push_perm xs ([], 0); rw [hP] at this; simpa using this
  have HP1 : Aside0 ((pushN ([], 0) xs).1 = P) := ⟨by rw [hP]⟩
  have HP2 : Aside0 ((pushN ([], 0) xs).2 = pv) := ⟨by rw [hP]⟩
  have HR := Aside0.mk hr
  have HX := Aside0.mk hx
  have HN : Aside0 (n ≤ 1024) := ⟨by omega⟩
  have HN40 := Aside0.mk hn
  have HM := Aside0.mk hm
  have HZ := Aside0.mk hz
  have HPl := Aside0.mk hPl
  have HPp := Aside0.mk hPp
  have hgt : decide ((40 : Int) < (n : Int)) = false := decide_eq_false (by omega)
  have hgt2 : decide ((12 : Int) < (m : Int)) = false := decide_eq_false (by omega)
  clear hP hr hx hm hz hPl hPp
  go_enter Try.func6, Try.ntmps6
  go_wp2_with (first
    | (go_at_call 16; refine S0.out.live.mono ?_; rintro e w1 ⟨rfl, h⟩; have S1 := Aside0.mk h; clear h)
    | (go_at_call 17; refine (St.new S1.out HR.out HX.out HN.out).mono ?_; rintro e w2 ⟨g, rfl, h⟩; rw [HP1.out, HP2.out] at h; have S2 := Aside0.mk h; clear h))
  go_loopw [42, 7] (fun v42 v7 wr => ∃ (k : Nat) (A7 : Option Addr) (c7 : Nat) (told : List S31) (es : List S81), v42 = .int .i64 k ∧ v7 = .slice A7 told.length c7 ∧ Aside0 (k ≤ m) ∧ Aside0 (AllRel w wr xs n g pv A7 c7 told es)) (fun v42 _ _ => m - (intOf v42).toNat)
  case atStart => exact ⟨0, none, 0, [], P, rfl, rfl, ⟨Nat.zero_le _⟩, ⟨⟨add_nil S2.out, Nat.le_refl _, by have := HPl.out; simpa using this, by simpa using HPp.out⟩⟩⟩
  case round =>
    obtain ⟨k, A7, c7, told, es, rfl, rfl, HK, RR⟩ := hrel
    obtain ⟨q1, q2, q3, q4⟩ := RR.out
    have SS := Aside0.mk q1.sw1
    have HL := Aside0.mk q3
    have HPm := Aside0.mk q4
    have HC7 := Aside0.mk q2
    clear RR q1 q2 q3 q4
    by_cases hk : k < m
    · obtain ⟨ta, rfl, hta⟩ := HZ.out.at SS.out.below k hk
      obtain ⟨t, ht⟩ : ∃ t, t = zs.getD k 0 := ⟨_, rfl⟩
      rw [← ht] at hta
      obtain ⟨D, R, hD⟩ : ∃ D R, dueE t es.length es = (D, R) := ⟨_, _, rfl⟩
      have HD1 : Aside0 ((dueE t es.length es).1 = D) := ⟨by rw [hD]⟩
      have HD2 : Aside0 ((dueE t es.length es).2 = R) := ⟨by rw [hD]⟩
      have HDl : Aside0 (D.length + R.length = es.length) := ⟨by have := due_len t es.length es (Nat.le_refl _); rw [hD] at this; exact this⟩
      have HDp : Aside0 ((D ++ R.map (·.f0)).Perm (es.map (·.f0))) := ⟨by have := due_perm t es.length es (Nat.le_refl _); rw [hD] at this; exact this⟩
      have HDle : Aside0 (∀ x ∈ D, x.f3 ≤ t) := ⟨by have := due_le t es.length es; rw [hD] at this; exact this⟩
      have HDh : Aside0 (∀ x rest, R = x :: rest → t < x.f0.f3) := ⟨by have := due_head t es.length es (Nat.le_refl _); rw [hD] at this; exact this⟩
      have HBe : Aside0 (es.length ≤ 1024) := ⟨by have := HL.out; have := HN40.out; omega⟩
      have HKm := Aside0.mk hk
      have hkm : k ≤ 12 := by omega
      clear hD ht
      go_wp2_with (go_at_call 23; refine (St.due SS.out HBe.out).mono ?_; rintro e w3 ⟨A8, c8, he, hc8, h⟩; rw [HD1.out] at he hc8 h; rw [HD2.out] at h; subst he; have S3 := Aside0.mk h.sw2; have C8 := Aside0.mk hc8; clear h hc8)
      go_loopw [50, 7] (fun v50 v7 wq => ∃ (j : Nat) (A9 : Option Addr) (c9 : Nat) (tj : List S31), v50 = .int .i64 j ∧ v7 = .slice A9 tj.length c9 ∧ Aside0 (j ≤ D.length) ∧ Aside0 (St w wq [EvA (.slice A9 tj.length c9) tj, EvA (.slice A8 D.length c8) D, AgA g R pv]) ∧ Aside0 (tj.length ≤ c9) ∧ Aside0 (tj = told ++ D.take j)) (fun v50 _ _ => D.length - (intOf v50).toNat)
      case atStart => exact ⟨0, A7, c7, told, rfl, rfl, ⟨Nat.zero_le _⟩, S3, HC7, ⟨by simp⟩⟩
      case round =>
        obtain ⟨j, A9, c9, tj, rfl, rfl, HJ, SQ, HC9, HTJ⟩ := hrel
        by_cases hj : j < D.length
        · have HJJ := Aside0.mk hj
          have hj40 : j ≤ 40 := by have h1 := HL.out; have h2 := HDl.out; have h3 := HN40.out; omega
          obtain ⟨ad, ea, x0, x1, x2, x3, x4, x5⟩ := at_T31 (SQ.out.sw1.read rfl) (j : Int) (by omega) (by omega)
          have hrd : rd_T31 D (j : Int) = D[j] := by simp [rd_T31, hj]
          rw [hrd] at x0 x1 x2 x3 x4 x5
          rw [Int.toNat_natCast] at x0 x1 x2 x3 x4 x5
          have hle : D[j].f3 ≤ t := HDle.out _ (List.getElem_mem hj)
          have hdec : decide (t < D[j].f3) = false := decide_eq_false (by omega)
          obtain ⟨ds, hds⟩ : ∃ ds, ds = told ++ D.take (j + 1) := ⟨_, rfl⟩
          have HDS : Aside0 (tj ++ [D[j]] = ds) := ⟨by rw [hds, HTJ.out, List.take_add_one, List.getElem?_eq_getElem hj, List.append_assoc]; rfl⟩
          have HDS2 := Aside0.mk hds
          have HBT : Aside0 (tj.length + 1 ≤ 100000) := ⟨by
            have h1 := HL.out
            have h2 := HDl.out
            have h3 := HN40.out
            rw [HTJ.out, List.length_append, List.length_take]
            omega⟩
          generalize D[j] = x at *
          subst ea
          obtain ⟨B1, hB1⟩ : ∃ B1 : Obj, B1 = .cells #[.int .i64 x.f0, .int .i64 x.f1, .int .i64 x.f2, .int .i64 x.f3, .int .i64 x.f4, .int .u64 x.f5] 31 := ⟨_, rfl⟩
          have HNEW : Aside0 (Kd.C k31 ((wr.alloc B1).alloc B1) (some ⟨wr.heap.size + 1, 0, none⟩) 1 [x]) := ⟨by
            have h1 : ((wr.alloc B1).alloc B1).heap[wr.heap.size + 1]? = some B1 := by
              have := heap_alloc_new (wr.alloc B1) B1
              simpa using this
            rw [hB1] at h1 ⊢
            exact (EvR.of_block (os := [x]) h1 (by simp)).C rfl⟩
          clear hrd hds hle
          subst hB1
          go_wp2_with (at_builtin; refine St.append (ds := ds) ((SQ.out.then (below_alloc (Below.refl _ _) _)).then (below_alloc (Below.refl _ _) _)) HNEW.out rfl (.tmp 58) (.tmp 60) rfl rfl rfl HBT.out HDS.out ?_; intro A10 c10 w10 hc10 h; have S10 := Aside0.mk h; have C10 := Aside0.mk hc10; clear h hc10)
          go_roundw
          case rel => exact ⟨j + 1, A10, c10, ds, by go_num, rfl, ⟨HJJ.out⟩, S10, C10, HDS2⟩
          case measure => (have := HJJ.out; simp [intOf]; omega)
        · obtain rfl : j = D.length := by have := HJ.out; omega
          have htj : tj = told ++ D := by have := HTJ.out; rwa [List.take_length] at this
          have HTL : Aside0 (tj.length + R.length = n) := ⟨by have h1 := HL.out; have h2 := HDl.out; rw [htj, List.length_append]; omega⟩
          have HTP : Aside0 ((tj ++ R.map (·.f0)).Perm xs) := ⟨by
            rw [htj, List.append_assoc]
            exact (HDp.out.append_left told).trans HPm.out⟩
          have htl := HTL.out
          have hn40 := HN40.out
          have SA := Aside0.mk SQ.out.sw2
          have SB := Aside0.mk SQ.out.sw1.drop
          have HBR : Aside0 (R.length ≤ 1024) := ⟨by omega⟩
          clear htj hj
          rcases R with _ | ⟨y, r⟩
          · have hq : (tj.length : Int) = (n : Int) := by simp at htl; omega
            have hq2 : decide ((tj.length : Int) = (n : Int)) = true := decide_eq_true hq
            go_wp2_with (first
              | (go_at_call 25; refine (St.next0 SA.out).mono ?_; rintro e w2 ⟨rfl, hw⟩; obtain rfl := hw.symm)
              | (go_at_call 21; refine (St.left SA.out).mono ?_; rintro e w2 ⟨rfl, hw⟩; obtain rfl := hw.symm))
            refine ⟨⟨k + 1, A9, c9, tj, [], by simp, rfl, ⟨HKm.out⟩, ⟨⟨SB.out, HC9.out, HTL.out, HTP.out⟩⟩⟩, ?_⟩
            have := HKm.out
            simp [intOf]
            omega
          · have hlt : t < y.f0.f3 := HDh.out y r rfl
            have hdec2 : decide (y.f0.f3 ≤ t) = false := decide_eq_false (by omega)
            have hq : (r.length : Int) + 1 + (tj.length : Int) = (n : Int) := by simp at htl; omega
            have hq3 : (0 : Int) < (r.length : Int) + 1 := by omega
            have hrb : r.length ≤ 1024 := by simp at htl; omega
            go_wp2_with (first
              | (go_at_call 25; refine (St.next1 SA.out HBR.out).mono ?_; rintro e w2 ⟨rfl, hw⟩; obtain rfl := hw.symm)
              | (go_at_call 21; refine (St.left SA.out).mono ?_; rintro e w2 ⟨rfl, hw⟩; obtain rfl := hw.symm))
            refine ⟨⟨k + 1, A9, c9, tj, y :: r, by simp, rfl, ⟨HKm.out⟩, ⟨⟨SB.out, HC9.out, HTL.out, HTP.out⟩⟩⟩, ?_⟩
            have := HKm.out
            simp [intOf]
            omega
    · obtain rfl : k = m := by have := HK.out; omega
      have hem : ∀ y ∈ es, y.f0.f3 ≤ 9223372036854775807 := fun y hy => HM.out _ (HPm.out.subset (List.mem_append_right _ (List.mem_map_of_mem (f := (·.f0)) hy)))
      obtain ⟨E, hE⟩ : ∃ E, dueE 9223372036854775807 es.length es = (E, []) := ⟨_, Prod.ext rfl (due_all _ _ _ (Nat.le_refl _) hem)⟩
      have hEp : E.Perm (es.map (·.f0)) := by have := due_perm 9223372036854775807 es.length es (Nat.le_refl _); rw [hE] at this; simpa using this
      obtain ⟨tt, htt⟩ : ∃ tt, told ++ E = tt := ⟨_, rfl⟩
      have hEl : E.length = es.length := by have := hEp.length_eq; simpa using this
      have hTT : tt.Perm xs := by rw [← htt]; exact (hEp.append_left told).trans HPm.out
      have hTl : tt.length = n := hTT.length_eq.trans HX.out
      have HE1 : Aside0 ((dueE 9223372036854775807 es.length es).1 = E) := ⟨by rw [hE]⟩
      have HE2 : Aside0 ((dueE 9223372036854775807 es.length es).2 = []) := ⟨by rw [hE]⟩
      have HBe : Aside0 (es.length ≤ 1024) := ⟨by have := HL.out; have := HN40.out; omega⟩
      have HBT : Aside0 (told.length + E.length ≤ 100000) := ⟨by have := HL.out; have := HN40.out; omega⟩
      have HTT := Aside0.mk htt
      have HTP := Aside0.mk hTT
      have HTL := Aside0.mk hTl
      have hq : (tt.length : Int) = (n : Int) := by omega
      have hq2 : decide ((tt.length : Int) = (n : Int)) = true := decide_eq_true hq
      clear hE hEp hEl hTT hTl hem htt
      go_wp2_with (first
        | (go_at_call 18; refine (St.rest SS.out HBe.out).mono ?_; rintro e w3 ⟨A3, c3, he, hc3, h⟩; rw [HE1.out] at he hc3 h; rw [HE2.out] at h; subst he; have S3 := Aside0.mk h.sw2; have R3 := Aside0.mk (St.read h rfl); clear h hc3)
        | (at_builtin; refine St.append (ds := tt) S3.out R3.out rfl (.tmp 94) (.tmp 96) rfl rfl rfl HBT.out HTT.out ?_; intro A4 c4 w4 hc4 h; have S4 := Aside0.mk h; have C4 := Aside0.mk hc4; clear h hc4)
        | (go_at_call 21; refine (St.left S4.out.sw2).mono ?_; rintro e w2 ⟨rfl, hw⟩; obtain rfl := hw.symm))
      have S5 := Aside0.mk S4.out.sw2.drop.sw1.drop
      clear SS S0 S1 S2 S3 R3 S4
      go_loopw [110] (fun v110 wq => ∃ p : Nat, v110 = .int .i64 p ∧ Aside0 (p ≤ n) ∧ Aside0 (St w wq [EvA (.slice A4 tt.length c4) tt])) (fun v110 _ => n - (intOf v110).toNat)
      case atStart => exact ⟨0, rfl, ⟨Nat.zero_le _⟩, S5⟩
      case round =>
        obtain ⟨p, rfl, HPn, SP⟩ := hrel
        by_cases hp : p < n
        · have hpx : p < xs.length := by have := HX.out; omega
          obtain ⟨ad, ea, x0, x1, x2, x3, x4, x5⟩ := at_T31 (below_C HR.out SP.out.below) (p : Int) (by omega) (by omega)
          have hrd : rd_T31 xs (p : Int) = xs[p] := by simp [rd_T31, hpx]
          rw [hrd] at x0 x1 x2 x3 x4 x5
          rw [Int.toNat_natCast] at x0 x1 x2 x3 x4 x5
          clear hrd
          generalize xs[p] = x at *
          subst ea
          have HPP := Aside0.mk hp
          have hp40 : p ≤ 40 := by omega
          obtain ⟨B1, hB1⟩ : ∃ B1 : Obj, B1 = .cells #[.int .i64 x.f0, .int .i64 x.f1, .int .i64 x.f2, .int .i64 x.f3, .int .i64 x.f4, .int .u64 x.f5] 31 := ⟨_, rfl⟩
          obtain ⟨w9, hw9⟩ : ∃ w9, w9 = wr.alloc B1 := ⟨_, rfl⟩
          have SP9 : Aside0 (St w w9 [EvA (.slice A4 tt.length c4) tt]) := ⟨by rw [hw9]; exact SP.out.then (below_alloc (Below.refl _ _) _)⟩
          have hbx : w9.heap[wr.heap.size]? = some B1 := by rw [hw9]; exact heap_alloc_new wr B1
          have HBX : Aside0 (∀ W, Below w9.heap.size w9 W → ∀ j u, (enc31 x)[j]? = some u → W.cell? ⟨wr.heap.size, j, none⟩ = some u) := ⟨by
            intro W hb j u hu
            have h1 : W.heap[wr.heap.size]? = some B1 := blk_below hbx hb
            rw [hB1] at h1
            rw [cell_of_block h1]
            simpa [enc31] using hu⟩
          have HXR : Aside0 (∀ W, Below w9.heap.size w9 W → Kd.C k31 W (some ad) n xs) := ⟨fun W hb => below_C HR.out (SP9.out.then hb).below⟩
          have HTR : Aside0 (∀ W, Below w9.heap.size w9 W → Kd.C k31 W A4 n tt) := ⟨fun W hb => by have := (SP9.out.then hb).read rfl; rw [HTL.out] at this; exact this⟩
          have HW9 := Aside0.mk hw9
          obtain ⟨bb, hbb⟩ : ∃ bb, wr.heap.size = bb := ⟨_, rfl⟩
          rw [hbb] at HBX
          clear hbx hq2 hq
          have hal : wr.alloc (.cells #[.int .i64 x.f0, .int .i64 x.f1, .int .i64 x.f2, .int .i64 x.f3, .int .i64 x.f4, .int .u64 x.f5] 31) = w9 := by rw [hw9, hB1]
          clear hw9 HW9 hB1
          go_wp2
          go_loopw [116, 16, 17] (fun v116 v16 v17 wq => ∃ i : Nat, v116 = .int .i64 i ∧ v16 = .int .i64 (cntE x (xs.take i)) ∧ v17 = .int .i64 (cntE x (tt.take i)) ∧ Aside0 (i ≤ n) ∧ Aside0 (Below w9.heap.size w9 wq)) (fun v116 _ _ _ => n - (intOf v116).toNat)
          case atStart => exact ⟨0, rfl, by simp [cntE], by simp [cntE], ⟨Nat.zero_le _⟩, ⟨Below.refl _ _⟩⟩
          case round =>
            obtain ⟨i, rfl, h16, h17, HI, HB⟩ := hrel
            by_cases hi : i < n
            · have hix : i < xs.length := by have := HX.out; omega
              have hit : i < tt.length := by have := HTL.out; omega
              have hi40 : i ≤ 40 := by omega
              obtain ⟨adx, eax, y0, y1, y2, y3, y4, y5⟩ := at_T31 (HXR.out _ HB.out) (i : Int) (by omega) (by omega)
              obtain ⟨adt, eat, z0, z1, z2, z3, z4, z5⟩ := at_T31 (HTR.out _ HB.out) (i : Int) (by omega) (by omega)
              have hrx : rd_T31 xs (i : Int) = xs[i] := by simp [rd_T31, hix]
              have hrt : rd_T31 tt (i : Int) = tt[i] := by simp [rd_T31, hit]
              rw [hrx] at y0 y1 y2 y3 y4 y5
              rw [hrt] at z0 z1 z2 z3 z4 z5
              rw [Int.toNat_natCast] at y0 y1 y2 y3 y4 y5 z0 z1 z2 z3 z4 z5
              have sx := cnt_step (x := x) hix
              have st := cnt_step (x := x) hit
              have lx := cnt_le (x := x) (l := xs) (i := i)
              have lt := cnt_le (x := x) (l := tt) (i := i)
              have b0 := HBX.out _ HB.out 0 _ rfl
              have b1 := HBX.out _ HB.out 1 _ rfl
              have b2 := HBX.out _ HB.out 2 _ rfl
              have b3 := HBX.out _ HB.out 3 _ rfl
              have b4 := HBX.out _ HB.out 4 _ rfl
              have b5 := HBX.out _ HB.out 5 _ rfl
              clear hrx hrt
              obtain rfl : adx = ad := by injection eax with e; exact e.symm
              generalize xs[i] = y at *
              generalize tt[i] = z at *
              generalize hcx : cntE x (xs.take i) = cx at *
              generalize hct : cntE x (tt.take i) = ct at *
              subst h16 h17 eat
              have SX := Aside0.mk sx
              have ST := Aside0.mk st
              have HII := Aside0.mk hi
              clear sx st eax hcx hct
              have hcx40 : cx ≤ 40 := by omega
              have hct40 : ct ≤ 40 := by omega
              by_cases hy : eqE y x = true
              · by_cases hz : eqE z x = true
                · rw [if_pos hy] at SX
                  rw [if_pos hz] at ST
                  unfold eqE at hy hz
                  go_wp2
                  repeat (go_quiet (fail); try go_wp2)
                  refine ⟨⟨i + 1, by simp, by rw [SX.out]; simp, by rw [ST.out]; simp, ⟨HII.out⟩, ⟨pw_below_drewN HB.out _⟩⟩, ?_⟩
                  have := HII.out
                  simp [intOf]
                  omega
                · rw [if_pos hy] at SX
                  rw [if_neg hz, Nat.add_zero] at ST
                  rw [Bool.not_eq_true] at hz
                  unfold eqE at hy hz
                  go_wp2
                  repeat (go_quiet (fail); try go_wp2)
                  refine ⟨⟨i + 1, by simp, by rw [SX.out]; simp, by rw [ST.out]; simp, ⟨HII.out⟩, ⟨pw_below_drewN HB.out _⟩⟩, ?_⟩
                  have := HII.out
                  simp [intOf]
                  omega
              · by_cases hz : eqE z x = true
                · rw [if_neg hy, Nat.add_zero] at SX
                  rw [if_pos hz] at ST
                  rw [Bool.not_eq_true] at hy
                  unfold eqE at hy hz
                  go_wp2
                  repeat (go_quiet (fail); try go_wp2)
                  refine ⟨⟨i + 1, by simp, by rw [SX.out]; simp, by rw [ST.out]; simp, ⟨HII.out⟩, ⟨pw_below_drewN HB.out _⟩⟩, ?_⟩
                  have := HII.out
                  simp [intOf]
                  omega
                · rw [if_neg hy, Nat.add_zero] at SX
                  rw [if_neg hz, Nat.add_zero] at ST
                  rw [Bool.not_eq_true] at hy
                  rw [Bool.not_eq_true] at hz
                  unfold eqE at hy hz
                  go_wp2
                  repeat (go_quiet (fail); try go_wp2)
                  refine ⟨⟨i + 1, by simp, by rw [SX.out]; simp, by rw [ST.out]; simp, ⟨HII.out⟩, ⟨pw_below_drewN HB.out _⟩⟩, ?_⟩
                  have := HII.out
                  simp [intOf]
                  omega
            · obtain rfl : i = n := by have := HI.out; omega
              have e1 : xs.take i = xs := List.take_of_length_le (by have := HX.out; omega)
              have e2 : tt.take i = tt := List.take_of_length_le (by have := HTL.out; omega)
              have e3 : cntE x tt = cntE x xs := HTP.out.countP_eq _
              rw [e1] at h16
              rw [e2, e3] at h17
              obtain ⟨cc, hcc⟩ : ∃ cc, cntE x xs = cc := ⟨_, rfl⟩
              rw [hcc] at h16 h17
              subst h16 h17
              have SP10 := Aside0.mk (SP9.out.then HB.out)
              clear e1 e2 e3 hcc hi
              go_wp2
              refine ⟨⟨p + 1, by simp, ⟨HPP.out⟩, SP10⟩, ?_⟩
              have := HPP.out
              simp [intOf]
              omega
        · obtain rfl : p = n := by have := HPn.out; omega
          clear hp
          go_wp2
          go_ret
          exact ⟨rfl, SP.out.below⟩
theorem all_all {n m c d : Nat} {A T : Option Addr} {xs : List S31} {zs : List Int} {w : World} (hx : xs.length = n) (hc : n ≤ c) (hr : Kd.C k31 w A n xs) (hm : ∀ x ∈ xs, x.f3 ≤ 9223372036854775807) (hz : IsRow .i64 w T m d zs) :
    Calls Try.prog 6 #[.slice A n c, .slice T m d] w fun e w' => e = .returned (.bool true) ∧ Below w.heap.size w w' := by
  by_cases h : 40 < n ∨ 12 < m
  · exact all_many h
  · exact all_walk hx (by omega) hc hr hm hz (by omega)
end Go.Proofs.Ytopmikcljekdiaa.Ag
