/- heap.down over the queue. -/
import Derived.Test.YtopmikcljekdiaaAgUp
namespace Go.Proofs.Ytopmikcljekdiaa.Ag
open Go.RowKit Go.Proofs.YtopmikcljekdiaaW.PrintWords Go.Proofs.Ytopmikcljekdiaa.PA Go.Proofs.Ytopmikcljekdiaa.SL
set_option linter.unusedVariables false

/-- Is there such an element, and does it stand ahead of that one? -/
def lessAt (es : List S81) (i j : Nat) : Bool := match es[i]?, es[j]? with
  | some x, some y => lessE x y
  | _, _ => false
theorem lessAt_eq {es : List S81} {i j : Nat} (hi : i < es.length) (hj : j < es.length) : lessAt es i j = lessE es[i] es[j] := by
  unfold lessAt
  rw [List.getElem?_eq_getElem hi, List.getElem?_eq_getElem hj]
def SomeBool (e : Ending) : Prop := ∃ b : Bool, e = .returned (.bool b)
def childE (es : List S81) (i n : Nat) : Nat := if 2 * i + 2 < n ∧ lessAt es (2 * i + 2) (2 * i + 1) = true then 2 * i + 2 else 2 * i + 1
def downE (es : List S81) (i n : Nat) : List S81 :=
  if h : 2 * i + 1 < n then
    (if lessAt es (childE es i n) i = true then downE (swapE es i (childE es i n)) (childE es i n) n else es)
  else es
termination_by n - i
decreasing_by (have : i < childE es i n := by (unfold childE; split <;> omega)); omega
theorem less_calls' {w : World} {A : Option Addr} {c n : Nat} {es : List S81} (hn : es.length = n) (hr : Kd.C k81 w A n es) (hc : n ≤ c) (i j : Nat) (hi : i < n) (hj : j < n) :
    Calls Try.prog 85 #[.slice A n c, .int .i64 i, .int .i64 j] w fun e w' => e = .returned (.bool (lessAt es i j)) ∧ Drawn0 w w' := by
  have := less_calls hn hr hc i j (by omega) (by omega)
  rw [← lessAt_eq] at this
  exact this

set_option maxHeartbeats 8000000 in
set_option maxRecDepth 100000 in
theorem down_calls {g q cap L n i0 : Nat} {es : List S81} {w : World} (hqg : q ≠ g) (hn : n ≤ 1000000) (hL : L ≤ 1000000) (hl : es.length = L) (hnL : n ≤ L) (hi0 : i0 < L)
    (hq : w.cell? ⟨q, 0, none⟩ = some (.slice (some ⟨g, 0, none⟩) L cap))
    (ho : w.ownsRow 0 81 7 (.slice (some ⟨g, 0, none⟩) L cap) L (es.flatMap enc)) :
    Calls Try.prog 66 #[.iface 79 (.pointer (some ⟨q, 0, none⟩)), .int .i64 i0, .int .i64 n] w fun e w' => SomeBool e ∧ Chg w w' (· = g) (· = g) ∧
      w'.ownsRow 0 81 7 (.slice (some ⟨g, 0, none⟩) L cap) L ((downE es i0 n).flatMap enc) := by
  have HO := Aside0.mk ho
  have HQ := Aside0.mk hq
  have HI := Aside0.mk hi0
  have HL0 := Aside0.mk hl
  have HNL := Aside0.mk hnL
  clear ho hq hi0 hl hnL
  go_enter Try.func66, Try.ntmps66
  go_wp2
  go_loopw [7] (fun v7 wr => ∃ (i : Nat) (es' : List S81), v7 = .int .i64 i ∧ Aside0 (i < L) ∧ Aside0 (es'.length = L) ∧ Aside0 (Chg w wr (· = g) (· = g)) ∧
      Aside0 (wr.ownsRow 0 81 7 (.slice (some ⟨g, 0, none⟩) L cap) L (es'.flatMap enc)) ∧ Aside0 (downE es i0 n = downE es' i n)) (fun v7 _ => L - (intOf v7).toNat)
  case atStart => exact ⟨i0, es, rfl, HI, HL0, ⟨Chg.refl _ _⟩, HO, ⟨rfl⟩⟩
  case round =>
    obtain ⟨i, es', rfl, HJ', HL, HC, HO', HU⟩ := hrel
    have hcell : wr.cell? ⟨q, 0, none⟩ = some (.slice (some ⟨g, 0, none⟩) L cap) := Chg.cell HC.out HQ.out hqg
    have hib : i ≤ 1000000 := by have := HJ'.out; omega
    have hrun := meth_less hcell
    have hCr : Aside0 (Kd.C k81 wr (some ⟨g, 0, none⟩) L es') := ⟨own_C HL.out HO'.out⟩
    have hcap : Aside0 (L ≤ cap) := ⟨own_cap2 HO'.out⟩
    by_cases c1 : 2 * i + 1 < n
    · obtain ⟨a, ha⟩ : ∃ a : Nat, a = 2 * i + 1 := ⟨_, rfl⟩
      obtain ⟨b, hb⟩ : ∃ b : Nat, b = 2 * i + 2 := ⟨_, rfl⟩
      have ea : 2 * (i : Int) + 1 = (a : Int) := by omega
      have eb : (a : Int) + 1 = (b : Int) := by omega
      have D : Aside0 (downE es' i n = if lessAt es' (childE es' i n) i = true then downE (swapE es' i (childE es' i n)) (childE es' i n) n else es') := ⟨by rw [downE, dif_pos c1]⟩
      have k1 : ¬ n ≤ a := by omega
      have ab : a ≤ 2000001 := by omega
      have HA : Aside0 (a < L) := ⟨by have := HNL.out; omega⟩
      have HIA : Aside0 (i < a) := ⟨by omega⟩
      have HIB : Aside0 (i < b) := ⟨by omega⟩
      have hch : Aside0 (childE es' i n = if b < n ∧ lessAt es' b a = true then b else a) := ⟨by rw [ha, hb]; rfl⟩
      clear c1 ha hb
      by_cases c2 : b < n
      · have HB : Aside0 (b < L) := ⟨by have := HNL.out; omega⟩
        have k3 : (b : Int) < (n : Int) := by omega
        by_cases t2 : lessAt es' b a = true
        · have HCH : Aside0 (childE es' i n = b) := ⟨by rw [hch.out, if_pos ⟨c2, t2⟩]⟩
          clear hch
          go_wp2_with fail
          refine (less_calls' HL.out hCr.out hcap.out b a HB.out HA.out).mono ?_
          rintro e w4 ⟨rfl, ⟨nd4, rfl⟩⟩
          have hcell4 : (wr.drewN nd4).cell? ⟨q, 0, none⟩ = some (.slice (some ⟨g, 0, none⟩) L cap) := hcell
          have hrun4 := meth_less hcell4
          go_wp2_with fail
          refine (less_calls' HL.out (Kd.C_drewN hCr.out _) hcap.out b i HB.out HJ'.out).mono ?_
          rintro e w5 ⟨rfl, ⟨nd5, rfl⟩⟩
          by_cases t3 : lessAt es' b i = true
          · have D2 := D.out
            rw [if_pos (by rw [HCH.out]; exact t3), HCH.out] at D2
            have DD := Aside0.mk D2
            clear D2 D
            have hcell5 : (wr.drewN (nd4 + nd5)).cell? ⟨q, 0, none⟩ = some (.slice (some ⟨g, 0, none⟩) L cap) := hcell
            have hrun5 := meth_swap hcell5
            go_wp2_with fail
            refine (swap_step HL.out hL HJ'.out HB.out (own_chg HO'.out (Chg.drewN _ (nd4 + nd5) (fun _ => False)) (fun _ _ h => h))).mono ?_
            rintro e w6 ⟨rfl, hc2, ho2⟩
            have HC2 := Aside0.mk (Chg.trans HC.out (Chg.trans (Chg.drewN _ (nd4 + nd5) _) hc2))
            have HO2 := Aside0.mk ho2
            clear hc2 ho2
            go_wp2
            go_roundw
            case rel => exact ⟨b, swapE es' i b, rfl, HB, ⟨by rw [swapE_len]; exact HL.out⟩, HC2, HO2, ⟨by rw [HU.out, DD.out]⟩⟩
            case measure => have := HIB.out; have := HB.out; simp [intOf]; omega
          · have t3' := Bool.eq_false_iff.mpr t3
            have D2 := D.out
            rw [if_neg (by rw [HCH.out]; exact t3)] at D2
            have DD := Aside0.mk D2
            clear D2 D t3
            go_wp2
            go_ret
            refine ⟨⟨_, rfl⟩, Chg.trans HC.out (Chg.drewN _ (nd4 + nd5) _), ?_⟩
            rw [HU.out, DD.out]
            exact own_chg HO'.out (Chg.drewN _ (nd4 + nd5) (fun _ => False)) (fun _ _ h => h)
        · have t2' := Bool.eq_false_iff.mpr t2
          have HCH : Aside0 (childE es' i n = a) := ⟨by rw [hch.out, if_neg (fun h => t2 h.2)]⟩
          clear hch t2
          go_wp2_with fail
          refine (less_calls' HL.out hCr.out hcap.out b a HB.out HA.out).mono ?_
          rintro e w4 ⟨rfl, ⟨nd4, rfl⟩⟩
          have hcell4 : (wr.drewN nd4).cell? ⟨q, 0, none⟩ = some (.slice (some ⟨g, 0, none⟩) L cap) := hcell
          have hrun4 := meth_less hcell4
          go_wp2_with fail
          refine (less_calls' HL.out (Kd.C_drewN hCr.out _) hcap.out a i HA.out HJ'.out).mono ?_
          rintro e w5 ⟨rfl, ⟨nd5, rfl⟩⟩
          by_cases t3 : lessAt es' a i = true
          · have D2 := D.out
            rw [if_pos (by rw [HCH.out]; exact t3), HCH.out] at D2
            have DD := Aside0.mk D2
            clear D2 D
            have hcell5 : (wr.drewN (nd4 + nd5)).cell? ⟨q, 0, none⟩ = some (.slice (some ⟨g, 0, none⟩) L cap) := hcell
            have hrun5 := meth_swap hcell5
            go_wp2_with fail
            refine (swap_step HL.out hL HJ'.out HA.out (own_chg HO'.out (Chg.drewN _ (nd4 + nd5) (fun _ => False)) (fun _ _ h => h))).mono ?_
            rintro e w6 ⟨rfl, hc2, ho2⟩
            have HC2 := Aside0.mk (Chg.trans HC.out (Chg.trans (Chg.drewN _ (nd4 + nd5) _) hc2))
            have HO2 := Aside0.mk ho2
            clear hc2 ho2
            go_wp2
            go_roundw
            case rel => exact ⟨a, swapE es' i a, rfl, HA, ⟨by rw [swapE_len]; exact HL.out⟩, HC2, HO2, ⟨by rw [HU.out, DD.out]⟩⟩
            case measure => have := HIA.out; have := HA.out; simp [intOf]; omega
          · have t3' := Bool.eq_false_iff.mpr t3
            have D2 := D.out
            rw [if_neg (by rw [HCH.out]; exact t3)] at D2
            have DD := Aside0.mk D2
            clear D2 D t3
            go_wp2
            go_ret
            refine ⟨⟨_, rfl⟩, Chg.trans HC.out (Chg.drewN _ (nd4 + nd5) _), ?_⟩
            rw [HU.out, DD.out]
            exact own_chg HO'.out (Chg.drewN _ (nd4 + nd5) (fun _ => False)) (fun _ _ h => h)
      · have HCH : Aside0 (childE es' i n = a) := ⟨by rw [hch.out, if_neg (fun h => c2 h.1)]⟩
        have k3 : ¬ (b : Int) < (n : Int) := by omega
        clear hch c2
        go_wp2_with fail
        refine (less_calls' HL.out hCr.out hcap.out a i HA.out HJ'.out).mono ?_
        rintro e w5 ⟨rfl, ⟨nd5, rfl⟩⟩
        by_cases t3 : lessAt es' a i = true
        · have D2 := D.out
          rw [if_pos (by rw [HCH.out]; exact t3), HCH.out] at D2
          have DD := Aside0.mk D2
          clear D2 D
          have hcell5 : (wr.drewN nd5).cell? ⟨q, 0, none⟩ = some (.slice (some ⟨g, 0, none⟩) L cap) := hcell
          have hrun5 := meth_swap hcell5
          go_wp2_with fail
          refine (swap_step HL.out hL HJ'.out HA.out (own_chg HO'.out (Chg.drewN _ nd5 (fun _ => False)) (fun _ _ h => h))).mono ?_
          rintro e w6 ⟨rfl, hc2, ho2⟩
          have HC2 := Aside0.mk (Chg.trans HC.out (Chg.trans (Chg.drewN _ nd5 _) hc2))
          have HO2 := Aside0.mk ho2
          clear hc2 ho2
          go_wp2
          go_roundw
          case rel => exact ⟨a, swapE es' i a, rfl, HA, ⟨by rw [swapE_len]; exact HL.out⟩, HC2, HO2, ⟨by rw [HU.out, DD.out]⟩⟩
          case measure => have := HIA.out; have := HA.out; simp [intOf]; omega
        · have t3' := Bool.eq_false_iff.mpr t3
          have D2 := D.out
          rw [if_neg (by rw [HCH.out]; exact t3)] at D2
          have DD := Aside0.mk D2
          clear D2 D t3
          go_wp2
          go_ret
          refine ⟨⟨_, rfl⟩, Chg.trans HC.out (Chg.drewN _ nd5 _), ?_⟩
          rw [HU.out, DD.out]
          exact own_chg HO'.out (Chg.drewN _ nd5 (fun _ => False)) (fun _ _ h => h)
    · have k1 : (n : Int) ≤ 2 * (i : Int) + 1 := by omega
      have D : Aside0 (downE es' i n = es') := ⟨by rw [downE, dif_neg c1]⟩
      clear c1
      go_wp2
      go_ret
      refine ⟨⟨_, rfl⟩, HC.out, ?_⟩
      rw [HU.out, D.out]
      exact HO'.out
end Go.Proofs.Ytopmikcljekdiaa.Ag
