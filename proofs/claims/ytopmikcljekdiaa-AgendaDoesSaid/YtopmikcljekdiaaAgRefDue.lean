/- The reference agenda: Due. -/
import Derived.Test.YtopmikcljekdiaaAgRef
import Derived.Test.YtopmikcljekdiaaAgNone
namespace Go.Proofs.Ytopmikcljekdiaa.Ag
open Go.RowKit Go.Proofs.YtopmikcljekdiaaW.PrintWords Go.Proofs.Ytopmikcljekdiaa.PA Go.Proofs.Ytopmikcljekdiaa.SL
set_option linter.unusedVariables false
set_option maxRecDepth 100000
set_option maxHeartbeats 16000000
theorem hold_nil {w0 w : World} {L : List Asn} (h : St w0 w L) : St w0 w (EvA (.slice none 0 0) [] :: L) :=
  h.add (F' := NoF) (Chg.refl _ _) ⟨fun k hk => hk.elim, own_nil _ _ _ _, fun k hk => by simp [own1, Value.ownBlock] at hk⟩
theorem filt_step {p : S31 → Bool} {l : List S31} {i : Nat} (h : i < l.length) : (l.take (i + 1)).filter p = (l.take i).filter p ++ (if p l[i] = true then [l[i]] else []) := by
  rw [List.take_add_one, List.getElem?_eq_getElem h, List.filter_append]
  congr 1
  by_cases hp : p l[i] = true
  · rw [if_pos hp]; simp [hp]
  · rw [if_neg hp]; simp [hp]
theorem filt_le {p : S31 → Bool} {l : List S31} {i : Nat} : ((l.take i).filter p).length ≤ i := by
  have h1 := List.length_filter_le p (l.take i)
  have h2 : (l.take i).length ≤ i := by rw [List.length_take]; omega
  omega
def upto (t : Int) (y : S31) : Bool := decide (y.f3 ≤ t)
def past (t : Int) (y : S31) : Bool := !decide (y.f3 ≤ t)
def RDue (w : World) (r : Nat) (o q : List S31) (e : Ending) (w' : World) : Prop :=
  ∃ A c B d W1, e = .returned (.slice A o.length c) ∧ o.length ≤ c ∧ w' = W1.setCell ⟨r, 0, none⟩ (.slice B q.length d) ∧ St w W1 [EvA (.slice A o.length c) o, EvA (.slice B q.length d) q]
theorem rdue_calls {r : Nat} {l : List S31} {t : Int} {w : World} {F : Nat → Prop} (hA : RfP r l w F) (hn : l.length ≤ 2000) :
    Calls Try.prog 24 #[.pointer (some ⟨r, 0, none⟩), .int .i64 t] w (RDue w r (l.filter (upto t)) (l.filter (past t))) := by
  obtain ⟨A1, c1, hcell, _, hC⟩ := hA.cell0
  obtain ⟨_, _, vv, hblk, _, _, _⟩ := hA
  have HC := Aside0.mk hC
  have HBK := Aside0.mk hblk
  obtain ⟨n, hnl⟩ : ∃ n, n = l.length := ⟨_, rfl⟩
  rw [← hnl] at hcell hn
  have HNL := Aside0.mk hnl
  have S0 := Aside0.mk (hold_nil (hold_nil (St.nil w)))
  clear hC hblk hnl
  go_enter Try.func24, Try.ntmps24
  go_wp2
  go_loopw [16, 5, 6] (fun v16 v5 v6 wq => ∃ (i : Nat) (A5 : Option Addr) (c5 : Nat) (o : List S31) (A6 : Option Addr) (c6 : Nat) (q : List S31), v16 = .int .i64 i ∧ v5 = .slice A5 o.length c5 ∧ v6 = .slice A6 q.length c6 ∧ Aside0 (i ≤ n) ∧ Aside0 (St w wq [EvA (.slice A5 o.length c5) o, EvA (.slice A6 q.length c6) q]) ∧ Aside0 (o.length ≤ c5) ∧ Aside0 (o = (l.take i).filter (upto t)) ∧ Aside0 (q = (l.take i).filter (past t))) (fun v16 _ _ _ => n - (intOf v16).toNat)
  case atStart => exact ⟨0, none, 0, [], none, 0, [], rfl, rfl, rfl, ⟨Nat.zero_le _⟩, S0, ⟨Nat.le_refl _⟩, ⟨by simp⟩, ⟨by simp⟩⟩
  case round =>
    obtain ⟨i, A5, c5, o, A6, c6, q, rfl, rfl, rfl, HI, SQ, HC5, HO, HQ⟩ := hrel
    by_cases hi : i < n
    · have hix : i < l.length := by have := HNL.out; omega
      have hi40 : i ≤ 2000 := by omega
      have HII := Aside0.mk hi
      obtain ⟨adx, eax, y0, y1, y2, y3, y4, y5⟩ := at_T31 (below_C HC.out SQ.out.below) (i : Int) (by omega) (by omega)
      have hrx : rd_T31 l (i : Int) = l[i] := by simp [rd_T31, hix]
      rw [hrx] at y0 y1 y2 y3 y4 y5
      rw [Int.toNat_natCast] at y0 y1 y2 y3 y4 y5
      have ho := filt_step (p := upto t) hix
      have hq := filt_step (p := past t) hix
      have lo := filt_le (p := upto t) (l := l) (i := i)
      have lq := filt_le (p := past t) (l := l) (i := i)
      rw [← HO.out] at lo ho
      rw [← HQ.out] at lq hq
      clear hrx
      generalize l[i] = y at *
      have HB5 : Aside0 (o.length + 1 ≤ 100000) := ⟨by omega⟩
      have HB6 : Aside0 (q.length + 1 ≤ 100000) := ⟨by omega⟩
      clear lo lq
      cases eax
      obtain ⟨B2, hB2⟩ : ∃ B2 : Obj, B2 = (.cells #[.int .i64 y.f0, .int .i64 y.f1, .int .i64 y.f2, .int .i64 y.f3, .int .i64 y.f4, .int .u64 y.f5] 31) := ⟨_, rfl⟩
      have SQ2 : Aside0 (St w ((wr.alloc B2).alloc B2) [EvA (.slice A5 o.length c5) o, EvA (.slice A6 q.length c6) q]) := ⟨(SQ.out.then (below_alloc (Below.refl _ _) _)).then (below_alloc (Below.refl _ _) _)⟩
      have HNEW : Aside0 (Kd.C k31 ((wr.alloc B2).alloc B2) (some ⟨wr.heap.size + 1, 0, none⟩) 1 [y]) := ⟨by
        have h1 : ((wr.alloc B2).alloc B2).heap[wr.heap.size + 1]? = some B2 := by
          have := heap_alloc_new (wr.alloc B2) B2
          simpa using this
        rw [hB2] at h1 ⊢
        exact (EvR.of_block (os := [y]) h1 (by simp)).C rfl⟩
      subst hB2
      obtain ⟨o2, ho2⟩ : ∃ o2, o ++ [y] = o2 := ⟨_, rfl⟩
      obtain ⟨q2, hq2⟩ : ∃ q2, q ++ [y] = q2 := ⟨_, rfl⟩
      have HO2 := Aside0.mk ho2
      have HQ2 := Aside0.mk hq2
      by_cases hyt : y.f3 ≤ t
      · have hdec : decide (y.f3 ≤ t) = true := decide_eq_true hyt
        have hup : upto t y = true := hdec
        have hpa : ¬ past t y = true := by simp [past, hyt]
        rw [if_pos hup, ho2] at ho
        rw [if_neg hpa, List.append_nil] at hq
        have HO3 := Aside0.mk ho.symm
        have HQ3 := Aside0.mk hq.symm
        clear ho hq ho2 hq2 hup hpa hyt
        go_wp2_with (at_builtin; refine St.append (ds := o2) SQ2.out HNEW.out rfl (.tmp 24) (.tmp 26) rfl rfl rfl HB5.out HO2.out ?_; intro A10 c10 w10 hc10 h; have S10 := Aside0.mk h; have C10 := Aside0.mk hc10; clear h hc10)
        go_roundw
        case rel => exact ⟨i + 1, A10, c10, o2, A6, c6, q, by go_num, rfl, rfl, ⟨HII.out⟩, S10, C10, HO3, HQ3⟩
        case measure => (have := HII.out; simp [intOf]; omega)
      · have hdec : decide (y.f3 ≤ t) = false := decide_eq_false hyt
        have hup : ¬ upto t y = true := by simp [upto, hyt]
        have hpa : past t y = true := by simp [past, hyt]
        rw [if_neg hup, List.append_nil] at ho
        rw [if_pos hpa, hq2] at hq
        have HO3 := Aside0.mk ho.symm
        have HQ3 := Aside0.mk hq.symm
        clear ho hq ho2 hq2 hup hpa hyt
        go_wp2_with (at_builtin; refine St.append (ds := q2) SQ2.out.sw1 HNEW.out rfl (.tmp 28) (.tmp 30) rfl rfl rfl HB6.out HQ2.out ?_; intro A10 c10 w10 hc10 h; have S10 := Aside0.mk h.sw1; have C10 := Aside0.mk hc10; clear h hc10)
        go_roundw
        case rel => exact ⟨i + 1, A5, c5, o, A10, c10, q2, by go_num, rfl, rfl, ⟨HII.out⟩, S10, HC5, HO3, HQ3⟩
        case measure => (have := HII.out; simp [intOf]; omega)
    · obtain rfl : n = i := by have := HI.out; omega
      have e1 : l.take n = l := List.take_of_length_le (by have := HNL.out; omega)
      rw [e1] at HO HQ
      have hb2 : wr.heap[r]? = some (.cells #[vv] 83 (0, 0)) := blk_below HBK.out SQ.out.below
      have hce : wr.cell? ⟨r, 0, none⟩ = some vv := cell_of_block hb2 0
      have hfr : wr.frozen? ⟨r, 0, none⟩ = false := by simp [World.frozen?, hb2]
      clear e1 hi hb2
      go_wp2
      go_ret
      rw [← HO.out, ← HQ.out]
      exact ⟨A5, c5, A6, c6, wr, rfl, HC5.out, rfl, SQ.out⟩
end Go.Proofs.Ytopmikcljekdiaa.Ag
