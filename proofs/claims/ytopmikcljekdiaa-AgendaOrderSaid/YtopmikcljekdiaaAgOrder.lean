/- AgendaOrder: the walk. -/
import Derived.Test.YtopmikcljekdiaaAgApp
import Derived.Test.YtopmikcljekdiaaAgNone
import Derived.Test.YtopmikcljekdiaaAgHeap
import Derived.OpenShut
namespace Go.Proofs.Ytopmikcljekdiaa.Ag
open Go.RowKit Go.Proofs.YtopmikcljekdiaaW.PrintWords Go.Proofs.YtopmikcljekdiaaW.PrintLast Go.Proofs.YtopmikcljekdiaaW.PrintMore Go.Proofs.Ytopmikcljekdiaa.PA Go.Proofs.Ytopmikcljekdiaa.SL
set_option linter.unusedVariables false
set_option maxRecDepth 100000
set_option maxHeartbeats 16000000
theorem order_many {n c : Nat} {A : Option Addr} {w : World} (hn : 40 < n) : Calls Try.prog 3 #[.slice A n c] w fun e w' => e = .returned (.bool true) ∧ Below w.heap.size w w' := by
  have S0 := Aside0.mk (St.nil w)
  have hgt : decide ((40 : Int) < (n : Int)) = true := decide_eq_true (by omega)
  go_enter Try.func3, Try.ntmps3
  go_wp2_with (go_at_call 16; refine S0.out.live.mono ?_; rintro e w1 ⟨rfl, h⟩; have S1 := Aside0.mk h; clear h)
  go_ret
  exact ⟨rfl, S1.out.below⟩
theorem held_nil {w0 w : World} {L : List Asn} (h : St w0 w L) : St w0 w (EvA (.slice none 0 0) [] :: L) :=
  h.add (F' := NoF) (Chg.refl _ _) ⟨fun k hk => hk.elim, own_nil _ _ _ _, fun k hk => by simp [own1, Value.ownBlock] at hk⟩
theorem filter_step {p : S31 → Bool} {l : List S31} {i : Nat} (h : i < l.length) : (l.take (i + 1)).filter p = (l.take i).filter p ++ (if p l[i] = true then [l[i]] else []) := by
  rw [List.take_add_one, List.getElem?_eq_getElem h, List.filter_append]
  congr 1
  by_cases hp : p l[i] = true
  · rw [if_pos hp]; simp [hp]
  · rw [if_neg hp]; simp [hp]
theorem filter_le {p : S31 → Bool} {l : List S31} {i : Nat} : ((l.take i).filter p).length ≤ i := by
  have h1 := List.length_filter_le p (l.take i)
  have h2 : (l.take i).length ≤ i := by rw [List.length_take]; omega
  omega
theorem order_walk {n c : Nat} {A : Option Addr} {xs : List S31} {w : World} (hx : xs.length = n) (hn : n ≤ 40) (hc : n ≤ c) (hr : Kd.C k31 w A n xs) (hm : ∀ x ∈ xs, x.f3 ≤ 9223372036854775807) :
    Calls Try.prog 3 #[.slice A n c] w fun e w' => e = .returned (.bool true) ∧ Below w.heap.size w w' := by
  have S0 := Aside0.mk (St.nil w)
  obtain ⟨P, pv, hP⟩ : ∃ P pv, pushN ([], 0) xs = (P, pv) := ⟨_, _, rfl⟩
  have hPl : P.length = n := by have := (pushN_len xs ([], 0)).1; rw [hP] at this; simpa [hx] using this
  have hPm : ∀ y ∈ P, y.f0.f3 ≤ 9223372036854775807 := by have := pushN_mem (p := fun x => x.f3 ≤ 9223372036854775807) hm; rw [hP] at this; exact this
  obtain ⟨tt, hE⟩ : ∃ E, dueE 9223372036854775807 P.length P = (E, []) := ⟨_, Prod.ext rfl (due_all _ _ _ (Nat.le_refl _) hPm)⟩
  have hTl : tt.length = n := by have := due_len 9223372036854775807 P.length P (Nat.le_refl _); rw [hE] at this; simpa [hPl] using this
  obtain ⟨hsort, hfil⟩ := rest_order hm (P := P) (told := tt) (by rw [hP]) (by rw [hE])
  have HP1 : Aside0 ((pushN ([], 0) xs).1 = P) := ⟨by rw [hP]⟩
  have HP2 : Aside0 ((pushN ([], 0) xs).2 = pv) := ⟨by rw [hP]⟩
  have HE1 : Aside0 ((dueE 9223372036854775807 P.length P).1 = tt) := ⟨by rw [hE]⟩
  have HE2 : Aside0 ((dueE 9223372036854775807 P.length P).2 = []) := ⟨by rw [hE]⟩
  have HR := Aside0.mk hr
  have HX := Aside0.mk hx
  have HN : Aside0 (n ≤ 1024) := ⟨by omega⟩
  have HBP : Aside0 (P.length ≤ 1024) := ⟨by omega⟩
  have HTL := Aside0.mk hTl
  have HSO := Aside0.mk hsort
  have HFI := Aside0.mk hfil
  have hgt : decide ((40 : Int) < (n : Int)) = false := decide_eq_false (by omega)
  have hqn : (tt.length : Int) = (n : Int) := by omega
  have HQN := Aside0.mk hqn
  clear hP hPl hPm hE hTl hsort hfil hr hx hm hqn
  go_enter Try.func3, Try.ntmps3
  go_wp2_with (first
    | (go_at_call 16; refine S0.out.live.mono ?_; rintro e w1 ⟨rfl, h⟩; have S1 := Aside0.mk h; clear h)
    | (go_at_call 17; refine (St.new S1.out HR.out HX.out HN.out).mono ?_; rintro e w2 ⟨g, rfl, h⟩; rw [HP1.out, HP2.out] at h; have S2 := Aside0.mk h; clear h)
    | (go_at_call 18; refine (St.rest S2.out HBP.out).mono ?_; rintro e w4 ⟨A4, c4, he, hc4, h⟩; rw [HE1.out] at he hc4 h; rw [HE2.out] at h; subst he; have S5 := Aside0.mk h.sw1.drop; have C4 := Aside0.mk hc4; clear h hc4))
  have hql : (tt.length : Int) = (n : Int) := HQN.out
  rw [hql]
  go_loopw [34] (fun v34 wq => ∃ p : Nat, v34 = .int .i64 p ∧ Aside0 (p ≤ n) ∧ Aside0 (St w wq [EvA (.slice A4 tt.length c4) tt])) (fun v34 _ => n - (intOf v34).toNat)
  case atStart => exact ⟨0, rfl, ⟨Nat.zero_le _⟩, S5⟩
  case round =>
    obtain ⟨p, rfl, HPn, SP⟩ := hrel
    by_cases hp : p < n
    · have hpx : p < tt.length := by have := HTL.out; omega
      have hCt : Kd.C k31 wr A4 n tt := by have := SP.out.read rfl; rw [HTL.out] at this; exact this
      obtain ⟨adt, eat, x0, x1, x2, x3, x4, x5⟩ := at_T31 hCt (p : Int) (by omega) (by omega)
      have hrd : rd_T31 tt (p : Int) = tt[p] := by simp [rd_T31, hpx]
      rw [hrd] at x0 x1 x2 x3 x4 x5
      rw [Int.toNat_natCast] at x0 x1 x2 x3 x4 x5
      have hgx : tt[p] = tt[p] := rfl
      obtain ⟨x, hxx⟩ : ∃ x, tt[p] = x := ⟨_, rfl⟩
      rw [hxx] at x0 x1 x2 x3 x4 x5
      have hso : ∀ q, q < p → (tt.getD q z31).f3 ≤ x.f3 := fun q hq => by
        rw [← hxx, List.getD_eq_getElem?_getD, List.getElem?_eq_getElem (by omega : q < tt.length)]
        exact List.pairwise_iff_getElem.1 HSO.out q p (by omega) hpx hq
      clear hgx hrd hxx
      subst eat
      have HPP := Aside0.mk hp
      have hp40 : p ≤ 40 := by omega
      obtain ⟨B1, hB1⟩ : ∃ B1 : Obj, B1 = (.cells #[.int .i64 x.f0, .int .i64 x.f1, .int .i64 x.f2, .int .i64 x.f3, .int .i64 x.f4, .int .u64 x.f5] 31) := ⟨_, rfl⟩
      obtain ⟨w9, hw9⟩ : ∃ w9, w9 = wr.alloc B1 := ⟨_, rfl⟩
      have SP9 : Aside0 (St w w9 [EvA (.slice (some adt) tt.length c4) tt]) := ⟨by rw [hw9]; exact SP.out.then (below_alloc (Below.refl _ _) _)⟩
      have hbx : w9.heap[wr.heap.size]? = some B1 := by rw [hw9]; exact heap_alloc_new wr B1
      have HBX : Aside0 (∀ W, Below w9.heap.size w9 W → ∀ j u, (enc31 x)[j]? = some u → W.cell? ⟨wr.heap.size, j, none⟩ = some u) := ⟨by
        intro W hb j u hu
        have h1 : W.heap[wr.heap.size]? = some B1 := blk_below hbx hb
        rw [hB1] at h1
        rw [cell_of_block h1]
        simpa [enc31] using hu⟩
      have HXR : Aside0 (∀ W, Below w9.heap.size w9 W → Kd.C k31 W A n xs) := ⟨fun W hb => below_C HR.out (SP9.out.then hb).below⟩
      have HTR : Aside0 (∀ W, Below w9.heap.size w9 W → Kd.C k31 W (some adt) n tt) := ⟨fun W hb => by have := (SP9.out.then hb).read rfl; rw [HTL.out] at this; exact this⟩
      obtain ⟨bb, hbb⟩ : ∃ bb, wr.heap.size = bb := ⟨_, rfl⟩
      rw [hbb] at HBX
      have b3 := HBX.out w9 (Below.refl _ _) 3 _ rfl
      have hal : wr.alloc (.cells #[.int .i64 x.f0, .int .i64 x.f1, .int .i64 x.f2, .int .i64 x.f3, .int .i64 x.f4, .int .u64 x.f5] 31) = w9 := by rw [hw9, hB1]
      have hcur : Aside0 (Kd.C k31 w9 (some adt) n tt) := ⟨HTR.out w9 (Below.refl _ _)⟩
      clear hw9 hB1 hbx hql
      have HSS := Aside0.mk hso
      clear hso
      have hreg : (p = 0) ∨ ∃ q, p = q + 1 := by cases p with | zero => exact .inl rfl | succ q => exact .inr ⟨q, rfl⟩
      rcases hreg with hp0 | ⟨q, hpq0⟩
      · have hdp : decide ((0 : Int) < (p : Int)) = false := decide_eq_false (by omega)
        have hdn : decide (0 < p) = false := decide_eq_false (by omega)
        clear hp0
        go_wp2
        go_quiet (fail)
        go_wp2
        have S9 : Aside0 (St w9 (w9.drewN nq) []) := ⟨(St.nil w9).then (pw_below_drewN (Below.refl _ _) nq)⟩
        go_loopw [54, 8] (fun vi vs wq => ∃ (i : Nat) (A8 : Option Addr) (c8 : Nat) (pj : List S31), vi = .int .i64 i ∧ vs = .slice A8 pj.length c8 ∧ Aside0 (i ≤ n) ∧ Aside0 (St w9 wq (EvA (.slice A8 pj.length c8) pj :: [])) ∧ Aside0 (pj.length ≤ c8) ∧ Aside0 (pj = (xs.take i).filter (fun y => y.f3 == x.f3))) (fun vi _ _ => n - (intOf vi).toNat)
        case atStart => exact ⟨0, none, 0, [], rfl, rfl, ⟨Nat.zero_le _⟩, ⟨held_nil S9.out⟩, ⟨Nat.le_refl _⟩, ⟨by simp⟩⟩
        case round =>
          obtain ⟨i, A8, c8, pj, rfl, rfl, HI, SQ, HC8, HPJ⟩ := hrel
          by_cases hi : i < n
          · have hix : i < xs.length := by have := HX.out; omega
            have hi40 : i ≤ 40 := by omega
            have HII := Aside0.mk hi
            obtain ⟨adx, eax, y0, y1, y2, y3, y4, y5⟩ := at_T31 (HXR.out _ SQ.out.below) (i : Int) (by omega) (by omega)
            have hrx : rd_T31 xs (i : Int) = xs[i] := by simp [rd_T31, hix]
            rw [hrx] at y0 y1 y2 y3 y4 y5
            rw [Int.toNat_natCast] at y0 y1 y2 y3 y4 y5
            have hst := filter_step (p := fun y => y.f3 == x.f3) hix
            have hle := filter_le (p := fun y => y.f3 == x.f3) (l := xs) (i := i)
            clear hrx
            generalize xs[i] = y at *
            have hpl : pj.length ≤ i := by rw [HPJ.out]; exact hle
            have HBT : Aside0 (pj.length + 1 ≤ 100000) := ⟨by omega⟩
            rw [← HPJ.out] at hst
            cases eax
            by_cases heq : y.f3 = x.f3
            · have hd2 : (y.f3 == x.f3) = true := by simpa using heq
              rw [if_pos hd2] at hst
              obtain ⟨ds, hds⟩ : ∃ ds, pj ++ [y] = ds := ⟨_, rfl⟩
              rw [hds] at hst
              have HST := Aside0.mk hst.symm
              clear hst hle hd2
              obtain ⟨yf0, yf1, yf2, yf3, yf4, yf5⟩ := y
              simp only at heq y0 y1 y2 y3 y4 y5
              subst heq
              have HDS := Aside0.mk hds
              clear hds
              obtain ⟨B2, hB2⟩ : ∃ B2 : Obj, B2 = (.cells #[.int .i64 yf0, .int .i64 yf1, .int .i64 yf2, .int .i64 x.f3, .int .i64 yf4, .int .u64 yf5] 31) := ⟨_, rfl⟩
              have SQ2 : Aside0 (St w9 (wr.alloc B2) (EvA (.slice A8 pj.length c8) pj :: [])) := ⟨SQ.out.then (below_alloc (Below.refl _ _) _)⟩
              have hb3 : (wr.alloc B2).cell? ⟨bb, 3, none⟩ = some (.int .i64 x.f3) := HBX.out _ SQ2.out.below 3 _ rfl
              have HNEW : Aside0 (Kd.C k31 ((wr.alloc B2).alloc B2) (some ⟨wr.heap.size + 1, 0, none⟩) 1 [⟨yf0, yf1, yf2, x.f3, yf4, yf5⟩]) := ⟨by
                have h1 : ((wr.alloc B2).alloc B2).heap[wr.heap.size + 1]? = some B2 := by
                  have := heap_alloc_new (wr.alloc B2) B2
                  simpa using this
                rw [hB2] at h1 ⊢
                exact (EvR.of_block (os := [⟨yf0, yf1, yf2, x.f3, yf4, yf5⟩]) h1 (by simp)).C rfl⟩
              subst hB2
              go_wp2_with (at_builtin; refine St.append (ds := ds) (SQ2.out.then (below_alloc (Below.refl _ _) _)) HNEW.out rfl (.tmp 63) (.tmp 65) rfl rfl rfl HBT.out HDS.out ?_; intro A10 c10 w10 hc10 h; have S10 := Aside0.mk h; have C10 := Aside0.mk hc10; clear h hc10)
              go_roundw
              case rel => exact ⟨i + 1, A10, c10, ds, by go_num, rfl, ⟨HII.out⟩, S10, C10, HST⟩
              case measure => (have := HII.out; simp [intOf]; omega)
            · have hd1 : decide (y.f3 = x.f3) = false := decide_eq_false heq
              have hd2 : ¬ (y.f3 == x.f3) = true := by simpa using heq
              rw [if_neg hd2, List.append_nil] at hst
              have HST := Aside0.mk hst.symm
              clear hst hle hd2
              obtain ⟨B2, hB2⟩ : ∃ B2 : Obj, B2 = (.cells #[.int .i64 y.f0, .int .i64 y.f1, .int .i64 y.f2, .int .i64 y.f3, .int .i64 y.f4, .int .u64 y.f5] 31) := ⟨_, rfl⟩
              have SQ2 : Aside0 (St w9 (wr.alloc B2) (EvA (.slice A8 pj.length c8) pj :: [])) := ⟨SQ.out.then (below_alloc (Below.refl _ _) _)⟩
              have hb3 : (wr.alloc B2).cell? ⟨bb, 3, none⟩ = some (.int .i64 x.f3) := HBX.out _ SQ2.out.below 3 _ rfl
              subst hB2
              go_wp2
              refine ⟨⟨i + 1, A8, c8, pj, by simp, rfl, ⟨HII.out⟩, SQ2, HC8, HST⟩, ?_⟩
              have := HII.out
              simp [intOf]
              omega
          · obtain rfl : n = i := by have := HI.out; omega
            have e1 : xs.take n = xs := List.take_of_length_le (by have := HX.out; omega)
            rw [e1] at HPJ
            clear e1 hi
            have SA := SQ
            have CA := HC8
            have HPA := HPJ
            obtain ⟨PA1, hPA1⟩ : ∃ q, q = A8 := ⟨_, rfl⟩
            obtain ⟨PC1, hPC1⟩ : ∃ q, q = c8 := ⟨_, rfl⟩
            obtain ⟨PP, hPP⟩ : ∃ q, q = pj := ⟨_, rfl⟩
            rw [← hPA1, ← hPC1, ← hPP] at SA
            rw [← hPC1, ← hPP] at CA
            rw [← hPP] at HPA
            have hql4 : (tt.length : Int) = (n : Int) := HQN.out
            subst hPA1 hPC1 hPP
            clear HI SQ HC8 HPJ
            go_wp2
            clear hql4
            go_loopw [70, 9] (fun vi vs wq => ∃ (i : Nat) (A8 : Option Addr) (c8 : Nat) (pj : List S31), vi = .int .i64 i ∧ vs = .slice A8 pj.length c8 ∧ Aside0 (i ≤ n) ∧ Aside0 (St w9 wq (EvA (.slice A8 pj.length c8) pj :: [EvA (.slice PA1 PP.length PC1) PP])) ∧ Aside0 (pj.length ≤ c8) ∧ Aside0 (pj = (tt.take i).filter (fun y => y.f3 == x.f3))) (fun vi _ _ => n - (intOf vi).toNat)
            case atStart => exact ⟨0, none, 0, [], rfl, rfl, ⟨Nat.zero_le _⟩, ⟨held_nil SA.out⟩, ⟨Nat.le_refl _⟩, ⟨by simp⟩⟩
            case round =>
              obtain ⟨i, A8, c8, pj, rfl, rfl, HI, SQ, HC8, HPJ⟩ := hrel
              by_cases hi : i < n
              · have hix : i < tt.length := by have := HTL.out; omega
                have hi40 : i ≤ 40 := by omega
                have HII := Aside0.mk hi
                obtain ⟨adx, eax, y0, y1, y2, y3, y4, y5⟩ := at_T31 (HTR.out _ SQ.out.below) (i : Int) (by omega) (by omega)
                have hrx : rd_T31 tt (i : Int) = tt[i] := by simp [rd_T31, hix]
                rw [hrx] at y0 y1 y2 y3 y4 y5
                rw [Int.toNat_natCast] at y0 y1 y2 y3 y4 y5
                have hst := filter_step (p := fun y => y.f3 == x.f3) hix
                have hle := filter_le (p := fun y => y.f3 == x.f3) (l := tt) (i := i)
                clear hrx
                generalize tt[i] = y at *
                have hpl : pj.length ≤ i := by rw [HPJ.out]; exact hle
                have HBT : Aside0 (pj.length + 1 ≤ 100000) := ⟨by omega⟩
                rw [← HPJ.out] at hst
                cases eax
                by_cases heq : y.f3 = x.f3
                · have hd2 : (y.f3 == x.f3) = true := by simpa using heq
                  rw [if_pos hd2] at hst
                  obtain ⟨ds, hds⟩ : ∃ ds, pj ++ [y] = ds := ⟨_, rfl⟩
                  rw [hds] at hst
                  have HST := Aside0.mk hst.symm
                  clear hst hle hd2
                  obtain ⟨yf0, yf1, yf2, yf3, yf4, yf5⟩ := y
                  simp only at heq y0 y1 y2 y3 y4 y5
                  subst heq
                  have HDS := Aside0.mk hds
                  clear hds
                  obtain ⟨B2, hB2⟩ : ∃ B2 : Obj, B2 = (.cells #[.int .i64 yf0, .int .i64 yf1, .int .i64 yf2, .int .i64 x.f3, .int .i64 yf4, .int .u64 yf5] 31) := ⟨_, rfl⟩
                  have SQ2 : Aside0 (St w9 (wr.alloc B2) (EvA (.slice A8 pj.length c8) pj :: [EvA (.slice PA1 PP.length PC1) PP])) := ⟨SQ.out.then (below_alloc (Below.refl _ _) _)⟩
                  have hb3 : (wr.alloc B2).cell? ⟨bb, 3, none⟩ = some (.int .i64 x.f3) := HBX.out _ SQ2.out.below 3 _ rfl
                  have HNEW : Aside0 (Kd.C k31 ((wr.alloc B2).alloc B2) (some ⟨wr.heap.size + 1, 0, none⟩) 1 [⟨yf0, yf1, yf2, x.f3, yf4, yf5⟩]) := ⟨by
                    have h1 : ((wr.alloc B2).alloc B2).heap[wr.heap.size + 1]? = some B2 := by
                      have := heap_alloc_new (wr.alloc B2) B2
                      simpa using this
                    rw [hB2] at h1 ⊢
                    exact (EvR.of_block (os := [⟨yf0, yf1, yf2, x.f3, yf4, yf5⟩]) h1 (by simp)).C rfl⟩
                  subst hB2
                  go_wp2_with (at_builtin; refine St.append (ds := ds) (SQ2.out.then (below_alloc (Below.refl _ _) _)) HNEW.out rfl (.tmp 79) (.tmp 81) rfl rfl rfl HBT.out HDS.out ?_; intro A10 c10 w10 hc10 h; have S10 := Aside0.mk h; have C10 := Aside0.mk hc10; clear h hc10)
                  go_roundw
                  case rel => exact ⟨i + 1, A10, c10, ds, by go_num, rfl, ⟨HII.out⟩, S10, C10, HST⟩
                  case measure => (have := HII.out; simp [intOf]; omega)
                · have hd1 : decide (y.f3 = x.f3) = false := decide_eq_false heq
                  have hd2 : ¬ (y.f3 == x.f3) = true := by simpa using heq
                  rw [if_neg hd2, List.append_nil] at hst
                  have HST := Aside0.mk hst.symm
                  clear hst hle hd2
                  obtain ⟨B2, hB2⟩ : ∃ B2 : Obj, B2 = (.cells #[.int .i64 y.f0, .int .i64 y.f1, .int .i64 y.f2, .int .i64 y.f3, .int .i64 y.f4, .int .u64 y.f5] 31) := ⟨_, rfl⟩
                  have SQ2 : Aside0 (St w9 (wr.alloc B2) (EvA (.slice A8 pj.length c8) pj :: [EvA (.slice PA1 PP.length PC1) PP])) := ⟨SQ.out.then (below_alloc (Below.refl _ _) _)⟩
                  have hb3 : (wr.alloc B2).cell? ⟨bb, 3, none⟩ = some (.int .i64 x.f3) := HBX.out _ SQ2.out.below 3 _ rfl
                  subst hB2
                  go_wp2
                  refine ⟨⟨i + 1, A8, c8, pj, by simp, rfl, ⟨HII.out⟩, SQ2, HC8, HST⟩, ?_⟩
                  have := HII.out
                  simp [intOf]
                  omega
              · obtain rfl : n = i := by have := HI.out; omega
                have e1 : tt.take n = tt := List.take_of_length_le (by have := HTL.out; omega)
                rw [e1] at HPJ
                clear e1 hi
                have hgg : pj = PP := by rw [HPJ.out, HPA.out]; exact HFI.out x.f3
                subst hgg
                have HBG : Aside0 (pj.length ≤ 100000) := ⟨by
                  have h1 := List.length_filter_le (fun y : S31 => y.f3 == x.f3) tt
                  have h2 := HTL.out
                  rw [HPJ.out]
                  omega⟩
                go_wp2_with (go_at_call 19; refine (St.same SQ.out.sw1 SQ.out rfl rfl CA.out HC8.out HBG.out).mono ?_; rintro e w12 ⟨rfl, h⟩; have SS := Aside0.mk (SP9.out.then h.below); clear h)
                refine ⟨⟨_, by go_num, ⟨HPP.out⟩, SS⟩, ?_⟩
                have := HPP.out
                simp [intOf]
                omega
      · obtain ⟨ad2, ea2, z0, z1, z2, z3, z4, z5⟩ := at_T31 hcur.out (q : Int) (by omega) (by omega)
        cases ea2
        have hrz : rd_T31 tt (q : Int) = tt.getD q z31 := by simp [rd_T31]
        rw [hrz] at z0 z1 z2 z3 z4 z5
        rw [Int.toNat_natCast] at z0 z1 z2 z3 z4 z5
        have hle := HSS.out q (by omega)
        generalize tt.getD q z31 = zq at *
        have hdec : decide (x.f3 < zq.f3) = false := decide_eq_false (by omega)
        have hdp : decide ((0 : Int) < (p : Int)) = true := decide_eq_true (by omega)
        have hdn : decide (0 < p) = true := decide_eq_true (by omega)
        have hpq : (p : Int) - 1 = (q : Int) := by omega
        have hql2 : (q : Int) < (n : Int) := by omega
        clear hle hpq0
        go_wp2
        go_quiet (fail)
        go_wp2
        have S9 : Aside0 (St w9 (w9.drewN nq) []) := ⟨(St.nil w9).then (pw_below_drewN (Below.refl _ _) nq)⟩
        go_loopw [54, 8] (fun vi vs wq => ∃ (i : Nat) (A8 : Option Addr) (c8 : Nat) (pj : List S31), vi = .int .i64 i ∧ vs = .slice A8 pj.length c8 ∧ Aside0 (i ≤ n) ∧ Aside0 (St w9 wq (EvA (.slice A8 pj.length c8) pj :: [])) ∧ Aside0 (pj.length ≤ c8) ∧ Aside0 (pj = (xs.take i).filter (fun y => y.f3 == x.f3))) (fun vi _ _ => n - (intOf vi).toNat)
        case atStart => exact ⟨0, none, 0, [], rfl, rfl, ⟨Nat.zero_le _⟩, ⟨held_nil S9.out⟩, ⟨Nat.le_refl _⟩, ⟨by simp⟩⟩
        case round =>
          obtain ⟨i, A8, c8, pj, rfl, rfl, HI, SQ, HC8, HPJ⟩ := hrel
          by_cases hi : i < n
          · have hix : i < xs.length := by have := HX.out; omega
            have hi40 : i ≤ 40 := by omega
            have HII := Aside0.mk hi
            obtain ⟨adx, eax, y0, y1, y2, y3, y4, y5⟩ := at_T31 (HXR.out _ SQ.out.below) (i : Int) (by omega) (by omega)
            have hrx : rd_T31 xs (i : Int) = xs[i] := by simp [rd_T31, hix]
            rw [hrx] at y0 y1 y2 y3 y4 y5
            rw [Int.toNat_natCast] at y0 y1 y2 y3 y4 y5
            have hst := filter_step (p := fun y => y.f3 == x.f3) hix
            have hle := filter_le (p := fun y => y.f3 == x.f3) (l := xs) (i := i)
            clear hrx
            generalize xs[i] = y at *
            have hpl : pj.length ≤ i := by rw [HPJ.out]; exact hle
            have HBT : Aside0 (pj.length + 1 ≤ 100000) := ⟨by omega⟩
            rw [← HPJ.out] at hst
            cases eax
            by_cases heq : y.f3 = x.f3
            · have hd2 : (y.f3 == x.f3) = true := by simpa using heq
              rw [if_pos hd2] at hst
              obtain ⟨ds, hds⟩ : ∃ ds, pj ++ [y] = ds := ⟨_, rfl⟩
              rw [hds] at hst
              have HST := Aside0.mk hst.symm
              clear hst hle hd2
              obtain ⟨yf0, yf1, yf2, yf3, yf4, yf5⟩ := y
              simp only at heq y0 y1 y2 y3 y4 y5
              subst heq
              have HDS := Aside0.mk hds
              clear hds
              obtain ⟨B2, hB2⟩ : ∃ B2 : Obj, B2 = (.cells #[.int .i64 yf0, .int .i64 yf1, .int .i64 yf2, .int .i64 x.f3, .int .i64 yf4, .int .u64 yf5] 31) := ⟨_, rfl⟩
              have SQ2 : Aside0 (St w9 (wr.alloc B2) (EvA (.slice A8 pj.length c8) pj :: [])) := ⟨SQ.out.then (below_alloc (Below.refl _ _) _)⟩
              have hb3 : (wr.alloc B2).cell? ⟨bb, 3, none⟩ = some (.int .i64 x.f3) := HBX.out _ SQ2.out.below 3 _ rfl
              have HNEW : Aside0 (Kd.C k31 ((wr.alloc B2).alloc B2) (some ⟨wr.heap.size + 1, 0, none⟩) 1 [⟨yf0, yf1, yf2, x.f3, yf4, yf5⟩]) := ⟨by
                have h1 : ((wr.alloc B2).alloc B2).heap[wr.heap.size + 1]? = some B2 := by
                  have := heap_alloc_new (wr.alloc B2) B2
                  simpa using this
                rw [hB2] at h1 ⊢
                exact (EvR.of_block (os := [⟨yf0, yf1, yf2, x.f3, yf4, yf5⟩]) h1 (by simp)).C rfl⟩
              subst hB2
              go_wp2_with (at_builtin; refine St.append (ds := ds) (SQ2.out.then (below_alloc (Below.refl _ _) _)) HNEW.out rfl (.tmp 63) (.tmp 65) rfl rfl rfl HBT.out HDS.out ?_; intro A10 c10 w10 hc10 h; have S10 := Aside0.mk h; have C10 := Aside0.mk hc10; clear h hc10)
              go_roundw
              case rel => exact ⟨i + 1, A10, c10, ds, by go_num, rfl, ⟨HII.out⟩, S10, C10, HST⟩
              case measure => (have := HII.out; simp [intOf]; omega)
            · have hd1 : decide (y.f3 = x.f3) = false := decide_eq_false heq
              have hd2 : ¬ (y.f3 == x.f3) = true := by simpa using heq
              rw [if_neg hd2, List.append_nil] at hst
              have HST := Aside0.mk hst.symm
              clear hst hle hd2
              obtain ⟨B2, hB2⟩ : ∃ B2 : Obj, B2 = (.cells #[.int .i64 y.f0, .int .i64 y.f1, .int .i64 y.f2, .int .i64 y.f3, .int .i64 y.f4, .int .u64 y.f5] 31) := ⟨_, rfl⟩
              have SQ2 : Aside0 (St w9 (wr.alloc B2) (EvA (.slice A8 pj.length c8) pj :: [])) := ⟨SQ.out.then (below_alloc (Below.refl _ _) _)⟩
              have hb3 : (wr.alloc B2).cell? ⟨bb, 3, none⟩ = some (.int .i64 x.f3) := HBX.out _ SQ2.out.below 3 _ rfl
              subst hB2
              go_wp2
              refine ⟨⟨i + 1, A8, c8, pj, by simp, rfl, ⟨HII.out⟩, SQ2, HC8, HST⟩, ?_⟩
              have := HII.out
              simp [intOf]
              omega
          · obtain rfl : n = i := by have := HI.out; omega
            have e1 : xs.take n = xs := List.take_of_length_le (by have := HX.out; omega)
            rw [e1] at HPJ
            clear e1 hi
            have SA := SQ
            have CA := HC8
            have HPA := HPJ
            obtain ⟨PA1, hPA1⟩ : ∃ q, q = A8 := ⟨_, rfl⟩
            obtain ⟨PC1, hPC1⟩ : ∃ q, q = c8 := ⟨_, rfl⟩
            obtain ⟨PP, hPP⟩ : ∃ q, q = pj := ⟨_, rfl⟩
            rw [← hPA1, ← hPC1, ← hPP] at SA
            rw [← hPC1, ← hPP] at CA
            rw [← hPP] at HPA
            have hql4 : (tt.length : Int) = (n : Int) := HQN.out
            subst hPA1 hPC1 hPP
            clear HI SQ HC8 HPJ
            go_wp2
            clear hql4
            go_loopw [70, 9] (fun vi vs wq => ∃ (i : Nat) (A8 : Option Addr) (c8 : Nat) (pj : List S31), vi = .int .i64 i ∧ vs = .slice A8 pj.length c8 ∧ Aside0 (i ≤ n) ∧ Aside0 (St w9 wq (EvA (.slice A8 pj.length c8) pj :: [EvA (.slice PA1 PP.length PC1) PP])) ∧ Aside0 (pj.length ≤ c8) ∧ Aside0 (pj = (tt.take i).filter (fun y => y.f3 == x.f3))) (fun vi _ _ => n - (intOf vi).toNat)
            case atStart => exact ⟨0, none, 0, [], rfl, rfl, ⟨Nat.zero_le _⟩, ⟨held_nil SA.out⟩, ⟨Nat.le_refl _⟩, ⟨by simp⟩⟩
            case round =>
              obtain ⟨i, A8, c8, pj, rfl, rfl, HI, SQ, HC8, HPJ⟩ := hrel
              by_cases hi : i < n
              · have hix : i < tt.length := by have := HTL.out; omega
                have hi40 : i ≤ 40 := by omega
                have HII := Aside0.mk hi
                obtain ⟨adx, eax, y0, y1, y2, y3, y4, y5⟩ := at_T31 (HTR.out _ SQ.out.below) (i : Int) (by omega) (by omega)
                have hrx : rd_T31 tt (i : Int) = tt[i] := by simp [rd_T31, hix]
                rw [hrx] at y0 y1 y2 y3 y4 y5
                rw [Int.toNat_natCast] at y0 y1 y2 y3 y4 y5
                have hst := filter_step (p := fun y => y.f3 == x.f3) hix
                have hle := filter_le (p := fun y => y.f3 == x.f3) (l := tt) (i := i)
                clear hrx
                generalize tt[i] = y at *
                have hpl : pj.length ≤ i := by rw [HPJ.out]; exact hle
                have HBT : Aside0 (pj.length + 1 ≤ 100000) := ⟨by omega⟩
                rw [← HPJ.out] at hst
                cases eax
                by_cases heq : y.f3 = x.f3
                · have hd2 : (y.f3 == x.f3) = true := by simpa using heq
                  rw [if_pos hd2] at hst
                  obtain ⟨ds, hds⟩ : ∃ ds, pj ++ [y] = ds := ⟨_, rfl⟩
                  rw [hds] at hst
                  have HST := Aside0.mk hst.symm
                  clear hst hle hd2
                  obtain ⟨yf0, yf1, yf2, yf3, yf4, yf5⟩ := y
                  simp only at heq y0 y1 y2 y3 y4 y5
                  subst heq
                  have HDS := Aside0.mk hds
                  clear hds
                  obtain ⟨B2, hB2⟩ : ∃ B2 : Obj, B2 = (.cells #[.int .i64 yf0, .int .i64 yf1, .int .i64 yf2, .int .i64 x.f3, .int .i64 yf4, .int .u64 yf5] 31) := ⟨_, rfl⟩
                  have SQ2 : Aside0 (St w9 (wr.alloc B2) (EvA (.slice A8 pj.length c8) pj :: [EvA (.slice PA1 PP.length PC1) PP])) := ⟨SQ.out.then (below_alloc (Below.refl _ _) _)⟩
                  have hb3 : (wr.alloc B2).cell? ⟨bb, 3, none⟩ = some (.int .i64 x.f3) := HBX.out _ SQ2.out.below 3 _ rfl
                  have HNEW : Aside0 (Kd.C k31 ((wr.alloc B2).alloc B2) (some ⟨wr.heap.size + 1, 0, none⟩) 1 [⟨yf0, yf1, yf2, x.f3, yf4, yf5⟩]) := ⟨by
                    have h1 : ((wr.alloc B2).alloc B2).heap[wr.heap.size + 1]? = some B2 := by
                      have := heap_alloc_new (wr.alloc B2) B2
                      simpa using this
                    rw [hB2] at h1 ⊢
                    exact (EvR.of_block (os := [⟨yf0, yf1, yf2, x.f3, yf4, yf5⟩]) h1 (by simp)).C rfl⟩
                  subst hB2
                  go_wp2_with (at_builtin; refine St.append (ds := ds) (SQ2.out.then (below_alloc (Below.refl _ _) _)) HNEW.out rfl (.tmp 79) (.tmp 81) rfl rfl rfl HBT.out HDS.out ?_; intro A10 c10 w10 hc10 h; have S10 := Aside0.mk h; have C10 := Aside0.mk hc10; clear h hc10)
                  go_roundw
                  case rel => exact ⟨i + 1, A10, c10, ds, by go_num, rfl, ⟨HII.out⟩, S10, C10, HST⟩
                  case measure => (have := HII.out; simp [intOf]; omega)
                · have hd1 : decide (y.f3 = x.f3) = false := decide_eq_false heq
                  have hd2 : ¬ (y.f3 == x.f3) = true := by simpa using heq
                  rw [if_neg hd2, List.append_nil] at hst
                  have HST := Aside0.mk hst.symm
                  clear hst hle hd2
                  obtain ⟨B2, hB2⟩ : ∃ B2 : Obj, B2 = (.cells #[.int .i64 y.f0, .int .i64 y.f1, .int .i64 y.f2, .int .i64 y.f3, .int .i64 y.f4, .int .u64 y.f5] 31) := ⟨_, rfl⟩
                  have SQ2 : Aside0 (St w9 (wr.alloc B2) (EvA (.slice A8 pj.length c8) pj :: [EvA (.slice PA1 PP.length PC1) PP])) := ⟨SQ.out.then (below_alloc (Below.refl _ _) _)⟩
                  have hb3 : (wr.alloc B2).cell? ⟨bb, 3, none⟩ = some (.int .i64 x.f3) := HBX.out _ SQ2.out.below 3 _ rfl
                  subst hB2
                  go_wp2
                  refine ⟨⟨i + 1, A8, c8, pj, by simp, rfl, ⟨HII.out⟩, SQ2, HC8, HST⟩, ?_⟩
                  have := HII.out
                  simp [intOf]
                  omega
              · obtain rfl : n = i := by have := HI.out; omega
                have e1 : tt.take n = tt := List.take_of_length_le (by have := HTL.out; omega)
                rw [e1] at HPJ
                clear e1 hi
                have hgg : pj = PP := by rw [HPJ.out, HPA.out]; exact HFI.out x.f3
                subst hgg
                have HBG : Aside0 (pj.length ≤ 100000) := ⟨by
                  have h1 := List.length_filter_le (fun y : S31 => y.f3 == x.f3) tt
                  have h2 := HTL.out
                  rw [HPJ.out]
                  omega⟩
                go_wp2_with (go_at_call 19; refine (St.same SQ.out.sw1 SQ.out rfl rfl CA.out HC8.out HBG.out).mono ?_; rintro e w12 ⟨rfl, h⟩; have SS := Aside0.mk (SP9.out.then h.below); clear h)
                refine ⟨⟨_, by go_num, ⟨HPP.out⟩, SS⟩, ?_⟩
                have := HPP.out
                simp [intOf]
                omega
    · obtain rfl : n = p := by have := HPn.out; omega
      clear hp
      go_wp2
      go_ret
      exact ⟨rfl, SP.out.below⟩
theorem order_all {n c : Nat} {A : Option Addr} {xs : List S31} {w : World} (hx : xs.length = n) (hc : n ≤ c) (hr : Kd.C k31 w A n xs) (hm : ∀ x ∈ xs, x.f3 ≤ 9223372036854775807) :
    Calls Try.prog 3 #[.slice A n c] w fun e w' => e = .returned (.bool true) ∧ Below w.heap.size w w' := by
  rcases Nat.lt_or_ge 40 n with h | h
  · exact order_many h
  · exact order_walk hx h hc hr hm
end Go.Proofs.Ytopmikcljekdiaa.Ag
