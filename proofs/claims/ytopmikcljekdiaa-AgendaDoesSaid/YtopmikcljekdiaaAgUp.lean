/- heap.up over the queue. -/
import Derived.Test.YtopmikcljekdiaaAgMeth
import Derived.Test.YtopmikcljekdiaaPAx3
import Derived.LoopN
namespace Go.Proofs.Ytopmikcljekdiaa.Ag
open Go.RowKit Go.Proofs.YtopmikcljekdiaaW.PrintWords Go.Proofs.Ytopmikcljekdiaa.PA Go.Proofs.Ytopmikcljekdiaa.SL
set_option linter.unusedVariables false

/-- Does x stand ahead of y? -/
def lessE (x y : S81) : Bool := if x.f0.f3 = y.f0.f3 then decide (x.f1 < y.f1) else decide (x.f0.f3 < y.f0.f3)
def swapE (es : List S81) (i j : Nat) : List S81 := match es[i]?, es[j]? with
  | some x, some y => (es.set i y).set j x
  | _, _ => es
def upE (es : List S81) (j : Nat) : List S81 :=
  if h : j = 0 then es else
  match es[j]?, es[(j - 1) / 2]? with
  | some x, some y => if lessE x y then upE (swapE es ((j - 1) / 2) j) ((j - 1) / 2) else es
  | _, _ => es
termination_by j
decreasing_by omega
theorem swapE_len (es : List S81) (i j : Nat) : (swapE es i j).length = es.length := by
  unfold swapE
  split <;> simp
theorem swapE_at {es : List S81} {i j : Nat} (hi : i < es.length) (hj : j < es.length) : swapE es i j = (es.set i es[j]).set j es[i] := by
  unfold swapE
  rw [List.getElem?_eq_getElem hi, List.getElem?_eq_getElem hj]
theorem less_calls {w : World} {A : Option Addr} {c n : Nat} {es : List S81} (hn : es.length = n) (hr : Kd.C k81 w A n es) (hc : n ≤ c) (i j : Nat) (hi : i < es.length) (hj : j < es.length) :
    Calls Try.prog 85 #[.slice A n c, .int .i64 i, .int .i64 j] w fun e w' => e = .returned (.bool (lessE es[i] es[j])) ∧ Drawn0 w w' := by
  subst hn
  refine agenda_queue_Less.calls A c es i j _ w hr hc ?_
  unfold agenda_queue_Less.f
  have hi' : (i : Int) < (es.length : Int) := by omega
  have hm : (j : Int) < (es.length : Int) := by omega
  have hi0 : (0 : Int) ≤ (i : Int) := by omega
  have hj0 : (0 : Int) ≤ (j : Int) := by omega
  have e1 : rd_T81 es (i : Int) = es[i] := by simp [rd_T81, hi]
  have e2 : rd_T81 es (j : Int) = es[j] := by simp [rd_T81, hj]
  simp only [e1, e2, if_pos hi0, if_pos hj0, if_pos hi', if_pos hm]
  unfold lessE
  by_cases h : es[i].f0.f3 = es[j].f0.f3 <;> simp [h]

theorem own_C {w : World} {g cap n : Nat} {es : List S81} (hn : es.length = n) (h : w.ownsRow 0 81 7 (.slice (some ⟨g, 0, none⟩) n cap) n (es.flatMap enc)) : Kd.C k81 w (some ⟨g, 0, none⟩) n es := by
  subst hn
  have hr : Kd.R k81 81 w 0 (fun _ => True) (.slice (some ⟨g, 0, none⟩) es.length cap) es := R_iff.2 ⟨fun _ _ => trivial, h⟩
  have := (Kd.R_reads' hr).2.2
  exact this
theorem own_cap2 {w : World} {g cap n : Nat} {xs : List Value} (h : w.ownsRow 0 81 7 (.slice (some ⟨g, 0, none⟩) n cap) n xs) : n ≤ cap := own_cap h

theorem Chg.cell {w w' : World} {F G : Nat → Prop} (h : Chg w w' F G) {p : Addr} {u : Value} (hc : w.cell? p = some u) (hp : ¬ F p.block) : w'.cell? p = some u := by
  have hb := World.block_lt_of_cell? w p hc
  have := h.keep p.block hb hp
  unfold World.cell? at hc ⊢
  rw [this]
  exact hc
theorem own_chg {w w' : World} {base n : Nat} {e : TypeId} {size : Nat} {v : Value} {xs : List Value} {F G : Nat → Prop} (h : w.ownsRow base e size v n xs) (hc : Chg w w' F G) (hv : ∀ k, v.ownBlock = some k → ¬ F k) : w'.ownsRow base e size v n xs :=
  own_move h (fun k hk => hc.keep k (own_lt h k hk) (hv k hk))

theorem swap_step {w : World} {g cap n i j : Nat} {es : List S81} (hl : es.length = n) (hn : n ≤ 1000000) (hi : i < n) (hj : j < n)
    (h : w.ownsRow 0 81 7 (.slice (some ⟨g, 0, none⟩) n cap) n (es.flatMap enc)) :
    Calls Try.prog 86 #[.slice (some ⟨g, 0, none⟩) n cap, .int .i64 i, .int .i64 j] w fun e w' => e = .returned (.tuple #[]) ∧
      Chg w w' (· = g) (· = g) ∧ w'.ownsRow 0 81 7 (.slice (some ⟨g, 0, none⟩) n cap) n ((swapE es i j).flatMap enc) := by
  subst hl
  refine (swap_calls hn hi hj h).mono ?_
  rintro e w' ⟨rfl, rfl⟩
  refine ⟨rfl, ?_, ?_⟩
  · exact Chg.trans (Chg.trans (Chg.putAt w g i _ rfl) (Chg.putAt _ g j _ rfl)) (Chg.drew _ _)
  · have h1 := putAt_own h es[j] hi
    have h2 := putAt_own h1 es[i] (i := j) (by simpa using hj)
    rw [← swapE_at hi hj] at h2
    exact own_chg h2 (Chg.drew _ (fun _ => False)) (fun _ _ h => h)

set_option maxHeartbeats 4000000 in
set_option maxRecDepth 100000 in
theorem up_calls {g q cap n j : Nat} {es : List S81} {w : World} (hqg : q ≠ g) (hn : n ≤ 1000000) (hl : es.length = n) (hj : j < n)
    (hq : w.cell? ⟨q, 0, none⟩ = some (.slice (some ⟨g, 0, none⟩) n cap))
    (ho : w.ownsRow 0 81 7 (.slice (some ⟨g, 0, none⟩) n cap) n (es.flatMap enc)) :
    Calls Try.prog 61 #[.iface 79 (.pointer (some ⟨q, 0, none⟩)), .int .i64 j] w fun e w' => e = .returned (.tuple #[]) ∧ Chg w w' (· = g) (· = g) ∧
      w'.ownsRow 0 81 7 (.slice (some ⟨g, 0, none⟩) n cap) n ((upE es j).flatMap enc) := by
  have HO := Aside0.mk ho
  have HQ := Aside0.mk hq
  have HJ := Aside0.mk hj
  have HL0 := Aside0.mk hl
  clear ho hq hj hl
  go_enter Try.func61, Try.ntmps61
  go_wp2
  go_loopw [1] (fun v1 wr => ∃ (m : Nat) (es' : List S81), v1 = .int .i64 m ∧ Aside0 (m < n) ∧ Aside0 (es'.length = n) ∧ Aside0 (Chg w wr (· = g) (· = g)) ∧
      Aside0 (wr.ownsRow 0 81 7 (.slice (some ⟨g, 0, none⟩) n cap) n (es'.flatMap enc)) ∧ Aside0 (upE es j = upE es' m)) (fun v1 _ => (intOf v1).toNat)
  case atStart => exact ⟨j, es, rfl, HJ, HL0, ⟨Chg.refl _ _⟩, HO, ⟨rfl⟩⟩
  case round =>
    obtain ⟨m, es', rfl, HJ', HL, HC, HO', HU⟩ := hrel
    have hcell : wr.cell? ⟨q, 0, none⟩ = some (.slice (some ⟨g, 0, none⟩) n cap) := Chg.cell HC.out HQ.out hqg
    have hjb : m ≤ 1000000 := by have := HJ'.out; omega
    by_cases h0 : m = 0
    · subst h0
      go_wp2
      go_end0
      refine ⟨rfl, HC.out, ?_⟩
      have hu : upE es' 0 = es' := by unfold upE; simp
      rw [HU.out, hu]
      exact HO'.out
    · obtain ⟨i, hi⟩ : ∃ i : Nat, i = (m - 1) / 2 := ⟨_, rfl⟩
      have ei : ((m : Int) - 1) / 2 = (i : Int) := by omega
      have hij : ((i : Int) == (m : Int)) = false := by simp; omega
      have hil : Aside0 (i < n) := ⟨by have := HJ'.out; omega⟩
      have hij2 : Aside0 (i < m) := ⟨by omega⟩
      have HI := Aside0.mk hi
      have H0 := Aside0.mk h0
      have hj1 : 1 ≤ m := by omega
      clear hi h0
      have hrun := meth_less hcell
      have hC : Aside0 (Kd.C k81 wr (some ⟨g, 0, none⟩) n es') := ⟨own_C HL.out HO'.out⟩
      have hii : Aside0 (i < es'.length) := ⟨by have := HL.out; have := hil.out; omega⟩
      have hjj : Aside0 (m < es'.length) := ⟨by have := HL.out; have := HJ'.out; omega⟩
      have hup : Aside0 (upE es' m = if lessE (es'[m]'(hjj.out)) (es'[i]'(hii.out)) then upE (swapE es' i m) i else es') := ⟨by
        have h1 := H0.out
        have h2 := HI.out
        have h3 := hjj.out
        have h4 := hii.out
        rw [upE, dif_neg h1, List.getElem?_eq_getElem h3, ← h2, List.getElem?_eq_getElem h4]⟩
      go_wp2_with fail
      refine (less_calls HL.out hC.out (own_cap2 HO'.out) m i hjj.out hii.out).mono ?_
      rintro e w1 ⟨rfl, ⟨nd, rfl⟩⟩
      by_cases hle : lessE (es'[m]'(hjj.out)) (es'[i]'(hii.out)) = true
      · have hup2 := hup.out
        rw [if_pos hle] at hup2
        have HUP := Aside0.mk hup2
        clear hup hup2
        have hcell2 : (wr.drewN nd).cell? ⟨q, 0, none⟩ = some (.slice (some ⟨g, 0, none⟩) n cap) := hcell
        have hrun2 := meth_swap hcell2
        go_wp2_with fail
        refine (swap_step HL.out hn hil.out HJ'.out (own_chg HO'.out (Chg.drewN _ nd (fun _ => False)) (fun _ _ h => h))).mono ?_
        rintro e w2 ⟨rfl, hc2, ho2⟩
        have HC2 := Aside0.mk (Chg.trans (Chg.trans HC.out (Chg.drewN _ nd _)) hc2)
        have HO2 := Aside0.mk ho2
        clear hc2 ho2
        go_wp2
        go_roundw
        case rel => exact ⟨i, swapE es' i m, rfl, hil, ⟨by rw [swapE_len]; exact HL.out⟩, HC2, HO2, ⟨by rw [HU.out, HUP.out]⟩⟩
        case measure => have := hij2.out; simp [intOf]; omega
      · have hle' := Bool.eq_false_iff.mpr hle
        have hup2 := hup.out
        rw [if_neg hle] at hup2
        have HUP := Aside0.mk hup2
        clear hup hup2 hle
        go_wp2
        go_end0
        refine ⟨rfl, Chg.trans HC.out (Chg.drewN _ nd _), ?_⟩
        rw [HU.out, HUP.out]
        exact own_chg HO'.out (Chg.drewN _ nd (fun _ => False)) (fun _ _ h => h)
end Go.Proofs.Ytopmikcljekdiaa.Ag
