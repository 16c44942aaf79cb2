/- The reference agenda: Put. -/
import Derived.Test.YtopmikcljekdiaaAgRefDue
namespace Go.Proofs.Ytopmikcljekdiaa.Ag
open Go.RowKit Go.Proofs.YtopmikcljekdiaaW.PrintWords Go.Proofs.Ytopmikcljekdiaa.PA Go.Proofs.Ytopmikcljekdiaa.SL
set_option linter.unusedVariables false
set_option maxRecDepth 100000
set_option maxHeartbeats 16000000
def insL (l : List S31) (x : S31) : List S31 := (l.filter (upto x.f3) ++ [x]) ++ l.filter (past x.f3)
theorem insL_len (l : List S31) (x : S31) : (insL l x).length = l.length + 1 := by
  have h : (l.filter (upto x.f3)).length + (l.filter (past x.f3)).length = l.length := by
    induction l with
    | nil => rfl
    | cons a l ih =>
      by_cases ha : a.f3 ≤ x.f3
      · have h1 : upto x.f3 a = true := decide_eq_true ha
        have h2 : ¬ past x.f3 a = true := by simp [past, ha]
        rw [List.filter_cons_of_pos h1, List.filter_cons_of_neg h2]
        simp; omega
      · have h1 : ¬ upto x.f3 a = true := by simp [upto, ha]
        have h2 : past x.f3 a = true := by simp [past, ha]
        rw [List.filter_cons_of_neg h1, List.filter_cons_of_pos h2]
        simp; omega
  unfold insL
  simp only [List.length_append, List.length_singleton]
  omega
def insN (l : List S31) (xs : List S31) : List S31 := xs.foldl insL l
theorem insN_len (xs : List S31) : ∀ l, (insN l xs).length = l.length + xs.length := by
  induction xs with
  | nil => intro l; rfl
  | cons x xs ih =>
    intro l
    have h : insN l (x :: xs) = insN (insL l x) xs := rfl
    rw [h, ih, insL_len, List.length_cons]
    omega
theorem insN_take (l xs : List S31) (k : Nat) (x : S31) (h : xs[k]? = some x) : insN l (xs.take (k + 1)) = insL (insN l (xs.take k)) x := by
  unfold insN
  rw [List.take_add_one, h]
  simp
theorem rput_end {r : Nat} {w wr W1 : World} {F F' : Nat → Prop} {B1 : Obj} {v0 v : Value} {o : List S31} (hc : Chg w wr F F') (hr : F' r) (hs : St (wr.alloc B1) W1 [EvA v o]) (hblk : wr.heap[r]? = some (.cells #[v0] 83 (0, 0))) :
    ∃ G, Chg w (W1.setCell ⟨r, 0, none⟩ v) F G ∧ RfP r o (W1.setCell ⟨r, 0, none⟩ v) G := by
  obtain ⟨hb, hh, hst⟩ := hs
  obtain ⟨F1, ⟨hlt, hE, hF⟩, hge, _⟩ := hst
  have hrs : r < wr.heap.size := (Array.getElem?_eq_some_iff.1 hblk).1
  have hbase : (wr.alloc B1).heap.size = wr.heap.size + 1 := by simp
  have hb2 : W1.heap[r]? = some (.cells #[v0] 83 (0, 0)) := by
    rw [hb.block r (by omega)]
    exact ((below_alloc (Below.refl _ wr) B1).block r hrs).trans hblk
  have hrv : ¬ own1 v r := fun h => by have := hge r (hF r h); omega
  have c1 : Chg wr W1 F' (fun k => k = r ∨ own1 v k) := by
    refine ⟨hb.os, hb.tape, hb.output, by have := hb.size; omega, fun k hk _ => ?_, fun k hk => ?_⟩
    · rw [hb.block k (by omega)]
      exact (below_alloc (Below.refl _ wr) B1).block k hk
    · rcases hk with rfl | hk
      · exact .inl hr
      · exact .inr (by have := hge k (hF k hk); omega)
  refine ⟨fun k => k = r ∨ own1 v k, Chg.trans (Chg.trans hc c1) (Chg.set _ r 0 _ (.inl rfl)), fun k hk => ?_, .inl rfl, v, by rw [heap_setCell_same hb2]; rfl, hrv, own_chg hE (Chg.set W1 r 0 _ (F := (· = r)) rfl) (fun k hk e => hrv (by subst e; exact hk)), fun k hk => .inr hk⟩
  have hsz : (W1.setCell ⟨r, 0, none⟩ v).heap.size = W1.heap.size := by simp [World.setCell]
  rw [hsz]
  rcases hk with rfl | hk
  · have := hb.size; omega
  · exact hlt k (hF k hk)
theorem rput_calls {r n c : Nat} {A : Option Addr} {l xs : List S31} {w : World} {F : Nat → Prop} (hA : RfP r l w F) (hxs : xs.length = n) (hn : l.length + n ≤ 1024) (hr : ∀ W F', Chg w W F F' → Kd.C k31 W A n xs) :
    Calls Try.prog 28 #[.pointer (some ⟨r, 0, none⟩), .slice A n c] w fun e w' => e = .returned (.int .i64 0) ∧ ∃ F', Chg w w' F F' ∧ RfP r (insN l xs) w' F' := by
  have HA := Aside0.mk hA
  obtain ⟨A0, c0, hcell, _, _⟩ := hA.cell0
  have HR := Aside0.mk hr
  have HX := Aside0.mk hxs
  have HN := Aside0.mk hn
  have hnn : n ≤ 1024 := by omega
  have hgt1 : decide ((1024 : Int) < (n : Int)) = false := decide_eq_false (by omega)
  have hgt2 : decide ((1024 : Int) < (l.length : Int) + (n : Int)) = false := decide_eq_false (by omega)
  have hll : l.length ≤ 1024 := by omega
  clear hr hxs hn hA
  go_enter Try.func28, Try.ntmps28
  go_wp2
  go_loopw [32] (fun v32 wr => ∃ (k : Nat) (F' : Nat → Prop), v32 = .int .i64 k ∧ Aside0 (k ≤ n) ∧ Aside0 (Chg w wr F F') ∧ Aside0 (RfP r (insN l (xs.take k)) wr F')) (fun v32 _ => n - (intOf v32).toNat)
  case atStart => exact ⟨0, F, rfl, ⟨Nat.zero_le _⟩, ⟨Chg.refl _ _⟩, HA⟩
  case round =>
    obtain ⟨k, F', rfl, HK, HC, HP⟩ := hrel
    by_cases hk : k < n
    · have hkx : k < xs.length := by have := HX.out; omega
      have HKK := Aside0.mk hk
      obtain ⟨adk, eak, x0, x1, x2, x3, x4, x5⟩ := at_T31 (HR.out wr F' HC.out) (k : Int) (by omega) (by omega)
      have hrd : rd_T31 xs (k : Int) = xs[k] := by simp [rd_T31, hkx]
      rw [hrd] at x0 x1 x2 x3 x4 x5
      rw [Int.toNat_natCast] at x0 x1 x2 x3 x4 x5
      have HIN := Aside0.mk (insN_take l xs k xs[k] (List.getElem?_eq_getElem hkx))
      have hlen := insN_len (xs.take k) l
      rw [List.length_take, Nat.min_eq_left (by omega)] at hlen
      clear hrd
      generalize xs[k] = x at *
      obtain ⟨lp, hlp⟩ : ∃ lp, insN l (xs.take k) = lp := ⟨_, rfl⟩
      rw [hlp] at HIN HP hlen
      have HLP := Aside0.mk hlp
      obtain ⟨A1, c1, hce, _, hC1⟩ := HP.out.cell0
      obtain ⟨_, hFr, vv, hblk, _, _, _⟩ := HP.out
      obtain ⟨m, hm⟩ : ∃ m, lp.length = m := ⟨_, rfl⟩
      rw [hm] at hce hC1 hlen
      have hmb : m ≤ 1024 := by have := HN.out; omega
      have HML := Aside0.mk hm
      have HMB := Aside0.mk hmb
      have HBLK := Aside0.mk hblk
      have HFR := Aside0.mk hFr
      have HKB : Aside0 (k ≤ 1024) := ⟨by omega⟩
      have hk1024 : k ≤ 1024 := by omega
      subst eak
      obtain ⟨B1, hB1⟩ : ∃ B1 : Obj, B1 = (.cells #[.int .i64 x.f0, .int .i64 x.f1, .int .i64 x.f2, .int .i64 x.f3, .int .i64 x.f4, .int .u64 x.f5] 31) := ⟨_, rfl⟩
      obtain ⟨w9, hw9⟩ : ∃ w9, wr.alloc B1 = w9 := ⟨_, rfl⟩
      have hb19 : Below wr.heap.size wr w9 := by rw [← hw9]; exact below_alloc (Below.refl _ _) _
      have hbx : w9.heap[wr.heap.size]? = some B1 := by rw [← hw9]; exact heap_alloc_new wr B1
      have HBX : Aside0 (∀ W, Below w9.heap.size w9 W → ∀ j u, (enc31 x)[j]? = some u → W.cell? ⟨wr.heap.size, j, none⟩ = some u) := ⟨by
        intro W hb j u hu
        have h1 : W.heap[wr.heap.size]? = some B1 := blk_below hbx hb
        rw [hB1] at h1
        rw [cell_of_block h1]
        simpa [enc31] using hu⟩
      have hC9 : Kd.C k31 w9 A1 m lp := Kd.C_below hC1 hb19
      have HLR : Aside0 (∀ W, Below w9.heap.size w9 W → Kd.C k31 W A1 m lp) := ⟨fun W hb => Kd.C_below hC9 hb⟩
      have hce9 : w9.cell? ⟨r, 0, none⟩ = some (.slice A1 m c1) := pw_cell_below hb19 hce
      have HCE : Aside0 (∀ W, Below w9.heap.size w9 W → W.cell? ⟨r, 0, none⟩ = some (.slice A1 m c1)) := ⟨fun W hb => pw_cell_below hb hce9⟩
      have hblk9 : w9.heap[r]? = some (.cells #[vv] 83 (0, 0)) := blk_below hblk hb19
      have HBK9 := Aside0.mk hblk9
      have HEND : Aside0 (∀ (W1 : World) (v : Value) (o : List S31), St w9 W1 [EvA v o] → ∃ G, Chg w (W1.setCell ⟨r, 0, none⟩ v) F G ∧ RfP r o (W1.setCell ⟨r, 0, none⟩ v) G) := ⟨fun W1 v o hs => rput_end (B1 := B1) (v0 := vv) HC.out HFR.out (by rw [hw9]; exact hs) HBLK.out⟩
      obtain ⟨bb, hbb⟩ : ∃ bb, wr.heap.size = bb := ⟨_, rfl⟩
      rw [hbb] at HBX
      have hal : wr.alloc (.cells #[.int .i64 x.f0, .int .i64 x.f1, .int .i64 x.f2, .int .i64 x.f3, .int .i64 x.f4, .int .u64 x.f5] 31) = w9 := by rw [← hw9, hB1]
      have S9 := Aside0.mk (hold_nil (St.nil w9))
      clear hw9 hbx hlen hlp hm hmb hblk hFr hC1 hC9 hb19 hblk9 hce hcell
      go_wp2
      go_loopw [41, 7] (fun vi vs wq => ∃ (i : Nat) (A8 : Option Addr) (c8 : Nat) (pj : List S31), vi = .int .i64 i ∧ vs = .slice A8 pj.length c8 ∧ Aside0 (i ≤ m) ∧ Aside0 (St w9 wq [EvA (.slice A8 pj.length c8) pj]) ∧ Aside0 (pj.length ≤ c8) ∧ Aside0 (pj = ([] : List S31) ++ (lp.take i).filter (upto x.f3))) (fun vi _ _ => m - (intOf vi).toNat)
      case atStart => exact ⟨0, none, 0, [], rfl, rfl, ⟨Nat.zero_le _⟩, S9, ⟨Nat.le_refl _⟩, ⟨by simp⟩⟩
      case round =>
        obtain ⟨i, A8, c8, pj, rfl, rfl, HI, SQ, HC8, HPJ⟩ := hrel
        by_cases hi : i < m
        · have hix : i < lp.length := by have := HML.out; omega
          have hi40 : i ≤ 2000 := by have := HMB.out; omega
          have HII := Aside0.mk hi
          obtain ⟨adx, eax, y0, y1, y2, y3, y4, y5⟩ := at_T31 (HLR.out _ SQ.out.below) (i : Int) (by omega) (by omega)
          have hrx : rd_T31 lp (i : Int) = lp[i] := by simp [rd_T31, hix]
          rw [hrx] at y0 y1 y2 y3 y4 y5
          rw [Int.toNat_natCast] at y0 y1 y2 y3 y4 y5
          have hst := filt_step (p := upto x.f3) hix
          have hle := filt_le (p := upto x.f3) (l := lp) (i := i)
          clear hrx
          generalize lp[i] = y at *
          have HBT : Aside0 (pj.length + 1 ≤ 100000) := ⟨by rw [HPJ.out, List.length_append]; rw [List.length_nil]; omega⟩
          cases eax
          obtain ⟨B2, hB2⟩ : ∃ B2 : Obj, B2 = (.cells #[.int .i64 y.f0, .int .i64 y.f1, .int .i64 y.f2, .int .i64 y.f3, .int .i64 y.f4, .int .u64 y.f5] 31) := ⟨_, rfl⟩
          have SQ2 : Aside0 (St w9 (wr.alloc B2) [EvA (.slice A8 pj.length c8) pj]) := ⟨SQ.out.then (below_alloc (Below.refl _ _) _)⟩
          have hb3 : (wr.alloc B2).cell? ⟨bb, 3, none⟩ = some (.int .i64 x.f3) := HBX.out _ SQ2.out.below 3 _ rfl
          by_cases hyt : y.f3 ≤ x.f3
          · have hdec : decide (y.f3 ≤ x.f3) = true := decide_eq_true hyt
            have hup : upto x.f3 y = true := hdec
            rw [if_pos hup] at hst
            obtain ⟨ds, hds⟩ : ∃ ds, pj ++ [y] = ds := ⟨_, rfl⟩
            have HDS := Aside0.mk hds
            have HST : Aside0 (ds = ([] : List S31) ++ (lp.take (i + 1)).filter (upto x.f3)) := ⟨by rw [← hds, HPJ.out, hst, List.append_assoc]⟩
            have HNEW : Aside0 (Kd.C k31 ((wr.alloc B2).alloc B2) (some ⟨wr.heap.size + 1, 0, none⟩) 1 [y]) := ⟨by
              have h1 : ((wr.alloc B2).alloc B2).heap[wr.heap.size + 1]? = some B2 := by
                have := heap_alloc_new (wr.alloc B2) B2
                simpa using this
              rw [hB2] at h1 ⊢
              exact (EvR.of_block (os := [y]) h1 (by simp)).C rfl⟩
            clear hst hds hle hup hyt
            subst hB2
            go_wp2_with (at_builtin; refine St.append (ds := ds) (SQ2.out.then (below_alloc (Below.refl _ _) _)) HNEW.out rfl (.tmp 50) (.tmp 52) rfl rfl rfl HBT.out HDS.out ?_; intro A10 c10 w10 hc10 h; have S10 := Aside0.mk h; have C10 := Aside0.mk hc10; clear h hc10)
            go_roundw
            case rel => exact ⟨i + 1, A10, c10, ds, by go_num, rfl, ⟨HII.out⟩, S10, C10, HST⟩
            case measure => (have := HII.out; simp [intOf]; omega)
          · have hdec : decide (y.f3 ≤ x.f3) = false := decide_eq_false hyt
            have hup : ¬ upto x.f3 y = true := (by unfold upto; rw [hdec]; decide)
            rw [if_neg hup, List.append_nil] at hst
            have HST : Aside0 (pj = ([] : List S31) ++ (lp.take (i + 1)).filter (upto x.f3)) := ⟨by rw [hst]; exact HPJ.out⟩
            clear hst hle hup hyt
            subst hB2
            go_wp2
            refine ⟨⟨i + 1, A8, c8, pj, by simp, rfl, ⟨HII.out⟩, SQ2, HC8, HST⟩, ?_⟩
            have := HII.out
            simp [intOf]
            omega
        · obtain rfl : m = i := by have := HI.out; omega
          have e1 : lp.take m = lp := List.take_of_length_le (by have := HML.out; omega)
          rw [e1] at HPJ
          clear e1 hi
          obtain ⟨q1, hq1⟩ : ∃ q, lp.filter (upto x.f3) = q := ⟨_, rfl⟩
          have hpe : pj = q1 := by rw [HPJ.out, List.nil_append, hq1]
          have HQ1 := Aside0.mk hq1
          obtain ⟨q2, hq2⟩ : ∃ q, pj ++ [x] = q := ⟨_, rfl⟩
          have HQ2 := Aside0.mk hq2
          have hO1 : q2.length ≤ 3000 := by
            have h1 := List.length_filter_le (upto x.f3) lp
            have h2 := HML.out
            have h3 := HMB.out
            rw [← hq2, hpe, ← hq1, List.length_append, List.length_singleton]
            omega
          have HO1 := Aside0.mk hO1
          have HBT1 : Aside0 (pj.length + 1 ≤ 100000) := ⟨by
            have h1 := List.length_filter_le (upto x.f3) lp
            have h2 := HML.out
            have h3 := HMB.out
            rw [hpe, ← hq1]
            omega⟩
          have HPE := Aside0.mk hpe
          clear hq1 hpe hq2 hO1
          have b0 := HBX.out _ SQ.out.below 0 _ rfl
          have b1 := HBX.out _ SQ.out.below 1 _ rfl
          have b2 := HBX.out _ SQ.out.below 2 _ rfl
          have b3 := HBX.out _ SQ.out.below 3 _ rfl
          have b4 := HBX.out _ SQ.out.below 4 _ rfl
          have b5 := HBX.out _ SQ.out.below 5 _ rfl
          have SQ3 : Aside0 (St w9 (wr.alloc B1) [EvA (.slice A8 pj.length c8) pj]) := ⟨SQ.out.then (below_alloc (Below.refl _ _) _)⟩
          have HNW : Aside0 (Kd.C k31 (wr.alloc B1) (some ⟨wr.heap.size, 0, none⟩) 1 [x]) := ⟨by
            have h1 : (wr.alloc B1).heap[wr.heap.size]? = some B1 := heap_alloc_new wr B1
            rw [hB1] at h1 ⊢
            exact (EvR.of_block (os := [x]) h1 (by simp)).C rfl⟩
          subst hB1
          go_wp2_with (at_builtin; refine St.append (ds := q2) SQ3.out HNW.out rfl (.tmp 55) (.tmp 57) rfl rfl rfl HBT1.out HQ2.out ?_; intro A10 c10 w10 hc10 h; have S10 := Aside0.mk h; have C10 := Aside0.mk hc10; have hce10 := HCE.out w10 h.below; clear h hc10)
          go_loopw [64, 7] (fun vi vs wq => ∃ (i : Nat) (A8 : Option Addr) (c8 : Nat) (pj : List S31), vi = .int .i64 i ∧ vs = .slice A8 pj.length c8 ∧ Aside0 (i ≤ m) ∧ Aside0 (St w9 wq [EvA (.slice A8 pj.length c8) pj]) ∧ Aside0 (pj.length ≤ c8) ∧ Aside0 (pj = q2 ++ (lp.take i).filter (past x.f3))) (fun vi _ _ => m - (intOf vi).toNat)
          case atStart => exact ⟨0, A10, c10, q2, rfl, rfl, ⟨Nat.zero_le _⟩, S10, C10, ⟨by simp⟩⟩
          case round =>
            obtain ⟨i, A8, c8, pj, rfl, rfl, HI, SQ, HC8, HPJ⟩ := hrel
            by_cases hi : i < m
            · have hix : i < lp.length := by have := HML.out; omega
              have hi40 : i ≤ 2000 := by have := HMB.out; omega
              have HII := Aside0.mk hi
              obtain ⟨adx, eax, y0, y1, y2, y3, y4, y5⟩ := at_T31 (HLR.out _ SQ.out.below) (i : Int) (by omega) (by omega)
              have hrx : rd_T31 lp (i : Int) = lp[i] := by simp [rd_T31, hix]
              rw [hrx] at y0 y1 y2 y3 y4 y5
              rw [Int.toNat_natCast] at y0 y1 y2 y3 y4 y5
              have hst := filt_step (p := past x.f3) hix
              have hle := filt_le (p := past x.f3) (l := lp) (i := i)
              clear hrx
              generalize lp[i] = y at *
              have HBT : Aside0 (pj.length + 1 ≤ 100000) := ⟨by rw [HPJ.out, List.length_append]; have h9 := HO1.out; omega⟩
              cases eax
              obtain ⟨B2, hB2⟩ : ∃ B2 : Obj, B2 = (.cells #[.int .i64 y.f0, .int .i64 y.f1, .int .i64 y.f2, .int .i64 y.f3, .int .i64 y.f4, .int .u64 y.f5] 31) := ⟨_, rfl⟩
              have SQ2 : Aside0 (St w9 (wr.alloc B2) [EvA (.slice A8 pj.length c8) pj]) := ⟨SQ.out.then (below_alloc (Below.refl _ _) _)⟩
              have hb3 : (wr.alloc B2).cell? ⟨bb, 3, none⟩ = some (.int .i64 x.f3) := HBX.out _ SQ2.out.below 3 _ rfl
              by_cases hyt : x.f3 < y.f3
              · have hdec : decide (x.f3 < y.f3) = true := decide_eq_true hyt
                have hup : past x.f3 y = true := (by unfold past; rw [decide_eq_false (by omega : ¬ y.f3 ≤ x.f3)]; rfl)
                rw [if_pos hup] at hst
                obtain ⟨ds, hds⟩ : ∃ ds, pj ++ [y] = ds := ⟨_, rfl⟩
                have HDS := Aside0.mk hds
                have HST : Aside0 (ds = q2 ++ (lp.take (i + 1)).filter (past x.f3)) := ⟨by rw [← hds, HPJ.out, hst, List.append_assoc]⟩
                have HNEW : Aside0 (Kd.C k31 ((wr.alloc B2).alloc B2) (some ⟨wr.heap.size + 1, 0, none⟩) 1 [y]) := ⟨by
                  have h1 : ((wr.alloc B2).alloc B2).heap[wr.heap.size + 1]? = some B2 := by
                    have := heap_alloc_new (wr.alloc B2) B2
                    simpa using this
                  rw [hB2] at h1 ⊢
                  exact (EvR.of_block (os := [y]) h1 (by simp)).C rfl⟩
                clear hst hds hle hup hyt
                subst hB2
                go_wp2_with (at_builtin; refine St.append (ds := ds) (SQ2.out.then (below_alloc (Below.refl _ _) _)) HNEW.out rfl (.tmp 73) (.tmp 75) rfl rfl rfl HBT.out HDS.out ?_; intro A10 c10 w10 hc10 h; have S10 := Aside0.mk h; have C10 := Aside0.mk hc10; clear h hc10)
                go_roundw
                case rel => exact ⟨i + 1, A10, c10, ds, by go_num, rfl, ⟨HII.out⟩, S10, C10, HST⟩
                case measure => (have := HII.out; simp [intOf]; omega)
              · have hdec : decide (x.f3 < y.f3) = false := decide_eq_false hyt
                have hup : ¬ past x.f3 y = true := (by unfold past; rw [decide_eq_true (by omega : y.f3 ≤ x.f3)]; decide)
                rw [if_neg hup, List.append_nil] at hst
                have HST : Aside0 (pj = q2 ++ (lp.take (i + 1)).filter (past x.f3)) := ⟨by rw [hst]; exact HPJ.out⟩
                clear hst hle hup hyt
                subst hB2
                go_wp2
                refine ⟨⟨i + 1, A8, c8, pj, by simp, rfl, ⟨HII.out⟩, SQ2, HC8, HST⟩, ?_⟩
                have := HII.out
                simp [intOf]
                omega
            · obtain rfl : m = i := by have := HI.out; omega
              have e1 : lp.take m = lp := List.take_of_length_le (by have := HML.out; omega)
              rw [e1] at HPJ
              clear e1 hi
              have hce11 := HCE.out wr SQ.out.below
              have hfz11 : wr.frozen? ⟨r, 0, none⟩ = false := by
                have := blk_below HBK9.out SQ.out.below
                simp [World.frozen?, this]
              obtain ⟨G, hG1, hG2⟩ := HEND.out _ _ _ SQ.out
              have hpf : pj = insL lp x := by
                rw [HPJ.out, ← HQ2.out, HPE.out, ← HQ1.out]
                rfl
              have hG3 : RfP r (insN l (List.take (k + 1) xs)) (wr.setCell ⟨r, 0, none⟩ (.slice A8 pj.length c8)) G := by rw [HIN.out, ← hpf]; exact hG2
              have HG1 := Aside0.mk hG1
              have HG2 := Aside0.mk hG3
              clear hG1 hG2 hG3 hpf
              go_wp2
              refine ⟨⟨k + 1, G, by simp, ⟨HKK.out⟩, HG1, HG2⟩, ?_⟩
              have := HKK.out
              simp [intOf]
              omega
    · obtain rfl : n = k := by have := HK.out; omega
      have e1 : xs.take n = xs := List.take_of_length_le (by have := HX.out; omega)
      rw [e1] at HP
      clear e1 hk
      go_wp2
      go_ret
      exact ⟨rfl, F', HC.out, HP.out⟩
end Go.Proofs.Ytopmikcljekdiaa.Ag
