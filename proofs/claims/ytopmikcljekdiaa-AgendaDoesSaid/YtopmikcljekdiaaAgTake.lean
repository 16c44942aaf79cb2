/- agenda.take. -/
import Derived.Test.YtopmikcljekdiaaAgPut
import Derived.Deep.RegionWith
namespace Go.Proofs.Ytopmikcljekdiaa.Ag
open Go.RowKit Go.Proofs.YtopmikcljekdiaaW.PrintWords Go.Proofs.Ytopmikcljekdiaa.PA Go.Proofs.Ytopmikcljekdiaa.SL
set_option linter.unusedVariables false

def popE (es : List S81) : List S81 := (downE (swapE es 0 (es.length - 1)) 0 (es.length - 1)).take (es.length - 1)
theorem popE_len (es : List S81) : (popE es).length = es.length - 1 := by
  unfold popE
  rw [List.length_take, downE_len _ _ _ _ (Nat.le_refl _), swapE_len]
  omega
def dueE (t : Int) : Nat → List S81 → List S31 × List S81
  | 0, es => ([], es)
  | n + 1, es => match es[0]? with
    | some x => if x.f0.f3 ≤ t then (x.f0 :: (dueE t n (popE es)).1, (dueE t n (popE es)).2) else ([], es)
    | none => ([], es)
def enc31 (x : S31) : List Value := [.int .i64 x.f0, .int .i64 x.f1, .int .i64 x.f2, .int .i64 x.f3, .int .i64 x.f4, .int .u64 x.f5]
theorem info31 : (Try.prog.info? 31).map (fun i => (i.zero, i.size, i.bytes)) = some (some (.agg #[.int .i64 0, .int .i64 0, .int .i64 0, .int .i64 0, .int .i64 0, .int .u64 0]), 6, 48) := by kernel_rfl
/-- A row of events over blocks O. -/
def EvR (w : World) (v : Value) (os : List S31) : Prop := w.ownsRow 0 31 6 v os.length (os.flatMap enc31)
theorem EvR.chg {w w' : World} {v : Value} {os : List S31} {F G : Nat → Prop} (h : EvR w v os) (hc : Chg w w' F G) (hv : ∀ k, own1 v k → ¬ F k) : EvR w' v os := own_chg h hc hv
/-- What take has so far: what is out, the agenda, and what is still to come. -/
structure TakeRel (w : World) (F : Nat → Prop) (g : Nat) (put t : Int) (n : Nat) (es : List S81) (v : Value) (wr : World) (os : List S31) (es' : List S81) (F' : Nat → Prop) (n' : Nat) : Prop where
  len : es'.length = n'
  small : os.length + n' ≤ 1024
  ag : AgP g es' put wr F'
  ev : EvR wr v os
  apart : ∀ k, own1 v k → ¬ F' k
  fresh : ∀ k, own1 v k → w.heap.size ≤ k
  into : ∀ k, F' k → F k ∨ w.heap.size ≤ k
  chg : Below 0 w wr
  keep : ∀ k, k < w.heap.size → ¬ F k → wr.heap[k]? = w.heap[k]?
  due : dueE t n es = (os ++ (dueE t n' es').1, (dueE t n' es').2)

def TakePost (w : World) (F : Nat → Prop) (g : Nat) (put t : Int) (es : List S81) (e : Ending) (w' : World) : Prop :=
  ∃ v F' , e = .returned v ∧ EvR w' v (dueE t es.length es).1 ∧ AgP g (dueE t es.length es).2 put w' F' ∧ (∀ k, own1 v k → ¬ F' k) ∧ (∀ k, own1 v k → w.heap.size ≤ k) ∧ Chg w w' F F'
theorem TakeRel.post {w : World} {F : Nat → Prop} {g : Nat} {put t : Int} {es : List S81} {v : Value} {wr wr' : World} {os : List S31} {es' : List S81} {F' : Nat → Prop} {n' nd : Nat}
    (h : TakeRel w F g put t es.length es v wr os es' F' n') (hd : dueE t n' es' = ([], es')) (hw : wr' = wr.drewN nd) : TakePost w F g put t es (.returned v) wr' := by
  subst hw
  have h1 := h.due
  rw [hd] at h1
  have h2 : Chg wr (wr.drewN nd) F' F' := Chg.drewN _ _ _
  refine ⟨v, F', rfl, ?_, ?_, h.apart, h.fresh, ?_⟩
  · rw [h1]
    simp only [List.append_nil]
    exact h.ev.chg (Chg.drewN _ nd (fun _ => False)) (fun _ _ h => h)
  · rw [h1]
    exact h.ag.move (fun k _ => rfl)
  · exact Chg.trans ⟨h.chg.os, h.chg.tape, h.chg.output, h.chg.size, h.keep, h.into⟩ h2

theorem TakeRel.step {w : World} {F : Nat → Prop} {g : Nat} {put t : Int} {n L nd g6 cap6 : Nat} {es : List S81} {u5 vq v3 : Value} {wr w3 w6 : World} {os : List S31} {x : S81} {rest : List S81} {F' : Nat → Prop} {B1 B2 : Obj}
    (h : TakeRel w F g put t n es u5 wr os (x :: rest) F' (L + 1)) (hg : F' g) (hv : ∀ k, own1 vq k → F' k) (htk : x.f0.f3 ≤ t)
    (hq : QAt w3 g v3 (.int .i64 put) (popE (x :: rest))) (hc : Chg (wr.drewN nd) w3 (fun k => k = g ∨ own1 vq k) (fun k => k = g ∨ own1 v3 k))
    (ho : w6.ownsRow 0 31 6 (.slice (some ⟨g6, 0, none⟩) (os.length + 1) cap6) (os.length + 1) (os.flatMap enc31 ++ enc31 x.f0))
    (hgr : ((w3.alloc B1).alloc B2).grownBy w6 u5.ownBlock) (hat : u5.ownBlock = some g6 ∨ g6 = w3.heap.size + 2) :
    TakeRel w F g put t n es (.slice (some ⟨g6, 0, none⟩) (os.length + 1) cap6) w6 (os ++ [x.f0]) (popE (x :: rest)) (fun k => k = g ∨ own1 v3 k) L := by
  have hlr : rest.length = L := by have := h.len; simpa using this
  have c0 : Chg wr w3 F' (fun k => k = g ∨ own1 v3 k) := by
    refine Chg.trans (Chg.drewN wr nd F') (Chg.weaken hc (fun k hk => hk.elim (fun e => e ▸ hg) (hv k)) (fun k hk => ?_))
    rcases hc.into k hk with h | h
    · exact .inl (h.elim (fun e => e ▸ hg) (hv k))
    · exact .inr h
  have b5 : Below w3.heap.size w3 ((w3.alloc B1).alloc B2) := below_alloc (below_alloc (Below.refl _ _) B1) B2
  have c5 : Chg wr ((w3.alloc B1).alloc B2) F' (fun k => k = g ∨ own1 v3 k) := Chg.trans c0 (Chg.of_below b5 _)
  have hu : ∀ k, own1 u5 k → k < wr.heap.size := fun k hk => own1_lt h.ev k hk
  have hF3 : ∀ k, (k = g ∨ own1 v3 k) → ¬ own1 u5 k := fun k hk hu5 => by
    rcases c0.into k hk with h1 | h1
    · exact h.apart k hu5 h1
    · have := hu k hu5; omega
  have hF3lt : ∀ k, (k = g ∨ own1 v3 k) → k < w3.heap.size := fun k hk => by
    rcases hk with rfl | hk
    · exact (Array.getElem?_eq_some_iff.1 hq.blk).1
    · exact own1_lt hq.own k hk
  have k6 : ∀ k, k < w3.heap.size → ¬ own1 u5 k → w6.heap[k]? = w3.heap[k]? := fun k hk hn =>
    (hgr.block k (Nat.lt_of_lt_of_le hk b5.size) (fun e => hn e.symm)).trans (b5.block k hk)
  have hs5 : w3.heap.size ≤ w6.heap.size := Nat.le_trans b5.size hgr.size
  refine ⟨?_, ?_, ⟨fun k hk => Nat.lt_of_lt_of_le (hF3lt k hk) hs5, .inl rfl, v3, ⟨(k6 g (hF3lt g (.inl rfl)) (hF3 g (.inl rfl))).trans hq.blk, hq.ne, own_move hq.own (fun k hk => k6 k (hF3lt k (.inr hk)) (hF3 k (.inr hk)))⟩, fun k hk => .inr hk⟩, ?_, ?_, ?_, ?_, ?_, ?_, ?_⟩
  · rw [popE_len]; simpa using hlr
  · have := h.small; simp; omega
  · unfold EvR
    rw [List.flatMap_append, List.length_append]
    simpa using ho
  · intro k hk
    have hk6 : g6 = k := by simpa [own1, Value.ownBlock] using hk
    subst hk6
    rcases hat with h1 | h1
    · exact fun h2 => hF3 _ h2 h1
    · exact fun h2 => by have := hF3lt _ h2; omega
  · intro k hk
    have hk6 : g6 = k := by simpa [own1, Value.ownBlock] using hk
    subst hk6
    rcases hat with h1 | h1
    · exact h.fresh _ h1
    · have h2 := h.chg.size
      have h3 := c0.size
      omega
  · intro k hk
    rcases c0.into k hk with h1 | h1
    · exact h.into k h1
    · have h2 := h.chg.size
      exact .inr (by omega)
  · exact ⟨hgr.os.trans (c5.os.trans h.chg.os), hgr.tape.trans (c5.tape.trans h.chg.tape), hgr.output.trans (c5.output.trans h.chg.output), Nat.le_trans h.chg.size (Nat.le_trans c5.size hgr.size), fun k hk => by omega⟩
  · intro k hk hF
    have hF' : ¬ F' k := fun h1 => (h.into k h1).elim hF (fun h2 => by omega)
    have hku : ¬ own1 u5 k := fun h1 => by have := h.fresh k h1; omega
    have h2 := h.chg.size
    have h3 := c0.size
    rw [k6 k (by omega) hku, c0.keep k (by omega) hF', h.keep k hk hF]
  · rw [h.due]
    simp [dueE, htk]
set_option maxHeartbeats 8000000 in
set_option maxRecDepth 100000 in
theorem take_calls {g : Nat} {es : List S81} {put t : Int} {w : World} {F : Nat → Prop} (hA : AgP g es put w F) (hn : es.length ≤ 1024) :
    Calls Try.prog 50 #[.pointer (some ⟨g, 0, none⟩), .func (.func 51) #[.int .i64 t] #[]] w (TakePost w F g put t es) := by
  have HT0 : Aside0 (TakeRel w F g put t es.length es (.slice none 0 0) w [] es F es.length) :=
    ⟨⟨rfl, by simpa using hn, hA, own_nil _ _ _ _, fun k hk => by simp [own1, Value.ownBlock] at hk, fun k hk => by simp [own1, Value.ownBlock] at hk, fun k hk => .inl hk, Below.refl _ _, fun _ _ _ => rfl, by simp⟩⟩
  clear hA
  go_enter Try.func50, Try.ntmps50
  go_wp2
  go_loopg [5] es.length (fun gk v5 wr => ∃ (os : List S31) (es' : List S81) (F' : Nat → Prop), Aside0 (TakeRel w F g put t es.length es v5 wr os es' F' gk))
  case atStart => exact ⟨[], es, F, HT0⟩
  case round =>
    obtain ⟨os, es', F', HR⟩ := hrel
    rcases es' with _ | ⟨x, rest⟩
    · obtain ⟨q1, q2, vq, q3, q4⟩ := HR.out.ag
      obtain ⟨A1, c1, hv1⟩ := own_slice q3.own
      subst hv1
      have hc0 : wr.cell? ⟨g, 0, none⟩ = some (.slice A1 0 c1) := cell_of_block q3.blk 0
      have HD : Aside0 (dueE t gk [] = ([], [])) := ⟨by cases gk <;> rfl⟩
      clear q1 q2 q3 q4
      go_wp2
      go_ret
      exact HR.out.post HD.out (nd := 0) rfl
    · obtain ⟨q1, q2, vq, q3, q4⟩ := HR.out.ag
      have HB : Aside0 ((x :: rest).length ≤ 1024) := ⟨by have h1 := HR.out.len; have h2 := HR.out.small; omega⟩
      obtain ⟨L, hL⟩ : ∃ L, L = rest.length := ⟨_, rfl⟩
      have hL1 : (x :: rest).length = L + 1 := by simp [hL]
      have hform := q3.own.form (by simp)
      rw [hL1] at hform
      obtain ⟨g2, cap2, he, _, _⟩ := hform
      subst he
      have HOW := Aside0.mk q3.own
      rw [hL1] at HOW HB
      have hc0 : wr.cell? ⟨g, 0, none⟩ = some (.slice (some ⟨g2, 0, none⟩) (L + 1) cap2) := cell_of_block q3.blk 0
      obtain ⟨a3, _⟩ := cells_at HOW.out 0 (by simp) 3 (.int .i64 x.f0.f3) rfl
      rw [Nat.zero_mul, Nat.zero_add] at a3
      have hLb : L ≤ 1023 := by have := HB.out; omega
      have hpos2 : (0 : Int) < (L : Int) + 1 := by omega
      have HQ3 := Aside0.mk q3
      have HQ2 := Aside0.mk q2
      have HQ4 := Aside0.mk q4
      have HL1 := Aside0.mk hL1
      clear q1 q2 q3 q4 hL1 hL
      by_cases htk : x.f0.f3 ≤ t
      · have hdec : decide (x.f0.f3 ≤ t) = true := decide_eq_true htk
        go_wp2_with (go_at_call 51; refine (agenda_limit_due.calls t x.f0.f3 (decide (x.f0.f3 ≤ t)) _ rfl).mono ?_; rintro e w2 ⟨rfl, ⟨nd, rfl⟩⟩)
        have HQN : Aside0 (QAt (wr.drewN nd) g (.slice (some ⟨g2, 0, none⟩) (L + 1) cap2) (.int .i64 put) (x :: rest)) := ⟨QAt.chg HQ3.out (Chg.drewN _ nd (fun _ => False)) (fun h => h) (fun _ _ h => h)⟩
        have HPP := Aside0.mk (hpop_calls (x := x) (m := L) (by omega) HL1.out rfl HQN.out)
        have hta := fun (w : World) (y : Value) => assert_entry y w
        unfold aggE at HPP
        refine HPP.out.mono ?_
        rintro e w3 ⟨rfl, v3, hq3, hc3⟩
        have HQ5 : Aside0 (QAt w3 g v3 (.int .i64 put) (popE (x :: rest))) := ⟨by unfold popE; rw [HL1.out]; exact hq3⟩
        have HC5 := Aside0.mk hc3
        clear hq3 hc3
        have HR0 := HR
        have hu5lt : ∀ k, own1 u5 k → k < w3.heap.size := fun k hk => Nat.lt_of_lt_of_le (own1_lt HR.out.ev k hk) HC5.out.size
        obtain ⟨B1, hB1⟩ : ∃ B1 : Obj, B1 = .cells (enc x).toArray 81 := ⟨_, rfl⟩
        obtain ⟨B2, hB2⟩ : ∃ B2 : Obj, B2 = .cells (enc31 x.f0).toArray 31 := ⟨_, rfl⟩
        have hnews : Aside0 (∀ j u, (enc31 x.f0)[j]? = some u → ((w3.alloc B1).alloc B2).cell? ((⟨w3.heap.size + 1, 0, none⟩ : Addr).add j) = some u) := ⟨fun j u h => by
          have hb : ((w3.alloc B1).alloc B2).heap[w3.heap.size + 1]? = some B2 := by
            have := heap_alloc_new (w3.alloc B1) B2
            simpa using this
          rw [add0]
          rw [hB2] at hb ⊢
          rw [cell_of_block hb]
          simpa using h⟩
        have hone : Aside0 (∀ u ∈ enc31 x.f0, u.oneCell' = true) := ⟨by intro u hu; simp [enc31] at hu; rcases hu with rfl | rfl | rfl | rfl | rfl | rfl <;> rfl⟩
        have HO : Aside0 (((w3.alloc B1).alloc B2).ownsRow 0 31 6 u5 os.length (os.flatMap enc31)) := ⟨HR.out.ev.chg (Chg.trans (Chg.trans (Chg.trans (Chg.drewN wr nd (fun k => k = g ∨ own1 (.slice (some ⟨g2, 0, none⟩) (L + 1) cap2) k)) HC5.out) (Chg.alloc _ B1 _)) (Chg.alloc _ B2 _)) (fun k hk hh => HR.out.apart k hk (hh.elim (fun e => e ▸ HQ2.out) (HQ4.out k)))⟩
        have hszs : Aside0 (((w3.alloc B1).alloc B2).heap.size = w3.heap.size + 2) := ⟨by simp⟩
        obtain ⟨i0, hi, hz0, hz1, hz2⟩ := info_parts info31
        have HI0 := Aside0.mk hi
        have HZ0 := Aside0.mk hz0
        have HZ1 := Aside0.mk hz1
        have HZ2 := Aside0.mk hz2
        have HOS : Aside0 (os.length ≤ 1024) := ⟨by have := HR.out.small; omega⟩
        have HTK := Aside0.mk htk
        have HU5 := Aside0.mk hu5lt
        have HLr : Aside0 (gk = L + 1) := ⟨by have h1 := HR.out.len; have h2 := HL1.out; rw [← h1]; exact h2⟩
        have HTK' := HTK
        clear hi hz0 hz1 hz2 hu5lt
        unfold enc at hB1
        unfold enc31 at hB2
        subst hB1
        subst hB2
        go_wp2_with (at_builtin; refine wpList_append_lies _ rfl (.tmp 36) (.tmp 39) 22 rfl 0 31 i0 (.agg #[.int .i64 0, .int .i64 0, .int .i64 0, .int .i64 0, .int .i64 0, .int .u64 0]) 6 48 Try.underlying22 HI0.out HZ0.out HZ1.out HZ2.out rfl (by decide) u5 os.length (os.flatMap enc31) rfl HO.out ⟨w3.heap.size + 1, 0, none⟩ 1 1 (enc31 x.f0) rfl rfl hnews.out hone.out (by decide) (by have := HOS.out; simp only [maxLen]; omega) (by have := HOS.out; omega) (Nat.zero_le _) (w3.heap.size + 2) hszs.out ?_; intro g6 cap6 w6 hown hgrow hat hlt; have HOW6 := Aside0.mk hown; have HGR6 := Aside0.mk hgrow; have HAT6 := Aside0.mk hat; clear hown hgrow hat)
        go_roundg L
        case rel => exact ⟨os ++ [x.f0], popE (x :: rest), _, ⟨TakeRel.step (HLr.out ▸ HR.out) HQ2.out HQ4.out HTK.out HQ5.out HC5.out HOW6.out HGR6.out HAT6.out⟩⟩
        all_goals exact (by rw [HLr.out]; exact Nat.lt_succ_self L)
      · have hdec : decide (x.f0.f3 ≤ t) = false := decide_eq_false htk
        have HD : Aside0 (dueE t gk (x :: rest) = ([], x :: rest)) := ⟨by cases gk with | zero => rfl | succ m => simp [dueE, htk]⟩
        clear htk
        go_wp2_with (go_at_call 51; refine (agenda_limit_due.calls t x.f0.f3 (decide (x.f0.f3 ≤ t)) _ rfl).mono ?_; rintro e w2 ⟨rfl, ⟨nd, rfl⟩⟩)
        go_ret
        exact HR.out.post HD.out rfl
end Go.Proofs.Ytopmikcljekdiaa.Ag
