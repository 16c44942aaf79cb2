/- agenda.Put. -/
import Derived.Test.YtopmikcljekdiaaAgPop
import Derived.StillTailTactics
import Derived.Deep.RegionWith
namespace Go.Proofs.Ytopmikcljekdiaa.Ag
open Go.RowKit Go.Proofs.YtopmikcljekdiaaW.PrintWords Go.Proofs.Ytopmikcljekdiaa.PA Go.Proofs.Ytopmikcljekdiaa.SL
set_option linter.unusedVariables false

/-- An agenda at block g: the heap's elements, and the number that the next one gets. -/
def AgP (g : Nat) (es : List S81) (put : Int) (w : World) (F : Nat → Prop) : Prop :=
  (∀ k, F k → k < w.heap.size) ∧ F g ∧ ∃ v, QAt w g v (.int .i64 put) es ∧ ∀ k, own1 v k → F k
theorem AgP.move {g : Nat} {es : List S81} {put : Int} {w w' : World} {F : Nat → Prop} (h : AgP g es put w F) (hm : ∀ k, F k → w'.heap[k]? = w.heap[k]?) : AgP g es put w' F := by
  obtain ⟨h1, h2, v, ⟨h3, h4, h5⟩, h6⟩ := h
  refine ⟨fun k hk => ?_, h2, v, ⟨(hm g h2).trans h3, h4, own_move h5 (fun k hk => hm k (h6 k hk))⟩, h6⟩
  have := h1 k hk
  rcases Nat.lt_or_ge k w'.heap.size with h | h
  · exact h
  · have h7 := hm k hk
    rw [Array.getElem?_eq_none h, Array.getElem?_eq_getElem this] at h7
    cases h7
def AgA (g : Nat) (es : List S81) (put : Int) : Asn := ⟨AgP g es put, fun h k hk => h.1 k hk, fun h hm => h.move hm⟩

theorem QAt.chg {w w' : World} {g : Nat} {v pv : Value} {es : List S81} {F G : Nat → Prop} (h : QAt w g v pv es) (hc : Chg w w' F G) (hg : ¬ F g) (hv : ∀ k, own1 v k → ¬ F k) : QAt w' g v pv es :=
  ⟨(hc.keep g (Array.getElem?_eq_some_iff.1 h.blk).1 hg).trans h.blk, h.ne, own_chg h.own hc hv⟩
theorem put_chg {w wr w3 : World} {B : Obj} {g : Nat} {vq v3 u : Value} {F F' G : Nat → Prop} (h : Chg w wr F F') (h5 : Chg (wr.alloc B).drew w3 (fun k => k = g ∨ own1 vq k) (fun k => k = g ∨ own1 v3 k)) (hg : F' g) (hv : ∀ k, own1 vq k → F' k)
    (hG : G = fun k => k = g ∨ own1 v3 k) : Chg w (w3.setCell ⟨g, 1, none⟩ u) F G := by
  subst hG
  have h1 : Chg wr (wr.alloc B).drew F' F' := Chg.trans (Chg.alloc _ B _) (Chg.drew _ _)
  have h2 : Chg (wr.alloc B).drew w3 F' (fun k => k = g ∨ own1 v3 k) := Chg.weaken h5 (fun k hk => hk.elim (fun e => e ▸ hg) (hv k)) (fun k hk => by
    rcases h5.into k hk with h | h
    · exact .inl (h.elim (fun e => e ▸ hg) (hv k))
    · exact .inr h)
  exact Chg.trans (Chg.trans (Chg.trans h h1) h2) (Chg.set _ g 1 _ (.inl rfl))
theorem put_agp {w3 : World} {g : Nat} {v3 : Value} {put : Int} {es : List S81} (h : QAt w3 g v3 (.int .i64 put) es) : AgP g es (put + 1) (w3.setCell ⟨g, 1, none⟩ (.int .i64 (put + 1))) (fun k => k = g ∨ own1 v3 k) := by
  have hg : g < w3.heap.size := (Array.getElem?_eq_some_iff.1 h.blk).1
  have hs : (w3.setCell ⟨g, 1, none⟩ (.int .i64 (put + 1))).heap.size = w3.heap.size := by simp [World.setCell]
  refine ⟨fun k hk => ?_, .inl rfl, v3, ⟨?_, h.ne, own_chg h.own (Chg.set w3 g 1 _ (F := (· = g)) rfl) (fun k hk e => h.ne (by subst e; exact hk))⟩, fun k hk => .inr hk⟩
  · rw [hs]
    rcases hk with rfl | hk
    · exact hg
    · exact own1_lt h.own k hk
  · rw [heap_setCell_same h.blk]
    rfl
def stepP (s : List S81 × Int) (x : S31) : List S81 × Int := (upE (s.1 ++ [⟨x, s.2⟩]) s.1.length, s.2 + 1)
def pushN (s : List S81 × Int) (xs : List S31) : List S81 × Int := xs.foldl stepP s
theorem pushN_len (xs : List S31) : ∀ s : List S81 × Int, (pushN s xs).1.length = s.1.length + xs.length ∧ (pushN s xs).2 = s.2 + xs.length := by
  induction xs with
  | nil => intro s; simp [pushN]
  | cons x xs ih =>
    intro s
    have h := ih (stepP s x)
    have h2 : (stepP s x).1.length = s.1.length + 1 := by simp [stepP, upE_len]
    have h3 : (stepP s x).2 = s.2 + 1 := rfl
    simp only [pushN, List.foldl_cons, List.length_cons] at h ⊢
    rw [h2, h3] at h
    refine ⟨by rw [h.1]; omega, by rw [h.2]; omega⟩
theorem pushN_take (s : List S81 × Int) (xs : List S31) (k : Nat) (x : S31) (h : xs[k]? = some x) : pushN s (xs.take (k + 1)) = stepP (pushN s (xs.take k)) x := by
  unfold pushN
  rw [List.take_add_one, h]
  simp
def ag31 (x : S31) : Value := .agg #[.int .i64 x.f0, .int .i64 x.f1, .int .i64 x.f2, .int .i64 x.f3, .int .i64 x.f4, .int .u64 x.f5]

set_option maxHeartbeats 8000000 in
set_option maxRecDepth 100000 in
theorem put_calls {g n c : Nat} {A : Option Addr} {es : List S81} {put : Int} {xs : List S31} {w : World} {F : Nat → Prop} (hA : AgP g es put w F) (hxs : xs.length = n) (hn : es.length + n ≤ 1024)
    (hp : 0 ≤ put ∧ put ≤ 1000000) (hr : ∀ W F', Chg w W F F' → Kd.C k31 W A n xs) :
    Calls Try.prog 20 #[.pointer (some ⟨g, 0, none⟩), .slice A n c] w fun e w' => e = .returned (.int .i64 0) ∧ ∃ F', Chg w w' F F' ∧ AgP g (pushN (es, put) xs).1 (pushN (es, put) xs).2 w' F' := by
  obtain ⟨v, hv⟩ : ∃ v, v = v := ⟨Value.slice none 0 0, rfl⟩
  have HA := Aside0.mk hA
  obtain ⟨hlt, hFg, v, hQ, hFv⟩ := hA
  obtain ⟨A1, c1, hv1⟩ := own_slice hQ.own
  subst hv1
  have hcell : w.cell? ⟨g, 0, none⟩ = some (.slice A1 es.length c1) := cell_of_block hQ.blk 0
  have HQ := Aside0.mk hQ
  have HR := Aside0.mk hr
  have HX := Aside0.mk hxs
  have hgt : ¬ (n : Int) > 1024 - (es.length : Int) := by omega
  have hgt2 : decide (1024 - (es.length : Int) < (n : Int)) = false := decide_eq_false (by omega)
  have hes : es.length ≤ 1024 := by omega
  have hnn : n ≤ 1024 := by omega
  have HN := Aside0.mk hn
  clear hQ hr hxs hv hFg hFv hlt hn
  go_enter Try.func20, Try.ntmps20
  go_wp2
  go_loopw [22] (fun v22 wr => ∃ (k : Nat) (F' : Nat → Prop), v22 = .int .i64 k ∧ Aside0 (k ≤ n) ∧ Aside0 (Chg w wr F F') ∧ Aside0 (AgP g (pushN (es, put) (xs.take k)).1 (pushN (es, put) (xs.take k)).2 wr F')) (fun v22 _ => n - (intOf v22).toNat)
  case atStart => exact ⟨0, F, rfl, ⟨Nat.zero_le _⟩, ⟨Chg.refl _ _⟩, HA⟩
  case round =>
    obtain ⟨k, F', rfl, HK, HC, HP⟩ := hrel
    by_cases hk : k < n
    · have hkx : k < xs.length := by have := HX.out; omega
      have HKX := Aside0.mk hkx
      obtain ⟨ad, ea, x0, x1, x2, x3, x4, x5⟩ := at_T31 (HR.out wr F' HC.out) (k : Int) (by omega) (by omega)
      have hrd : rd_T31 xs (k : Int) = xs[k] := by simp [rd_T31, hkx]
      rw [hrd] at x0 x1 x2 x3 x4 x5
      rw [Int.toNat_natCast] at x0 x1 x2 x3 x4 x5
      have HST := Aside0.mk (pushN_take (es, put) xs k xs[k] (List.getElem?_eq_getElem hkx))
      have hlen := pushN_len (xs.take k) (es, put)
      rw [List.length_take, Nat.min_eq_left (by omega)] at hlen
      generalize xs[k] = x at *
      obtain ⟨⟨es', put'⟩, hs⟩ : ∃ s, pushN (es, put) (xs.take k) = s := ⟨_, rfl⟩
      rw [hs] at HP HST hlen
      have HS := Aside0.mk hs
      have HLEN := Aside0.mk hlen
      have hpb : 0 ≤ put' ∧ put' ≤ 2000000 := by have h1 := hlen.2; simp only at h1; omega
      have heb : es'.length ≤ 1024 := by have h1 := hlen.1; have h2 := HN.out; simp only at h1; omega
      obtain ⟨q1, q2, vq, q3, q4⟩ := HP.out
      have hc0 : wr.cell? ⟨g, 0, none⟩ = some vq := cell_of_block q3.blk 0
      have hc1 : wr.cell? ⟨g, 1, none⟩ = some (.int .i64 put') := cell_of_block q3.blk 1
      subst ea
      clear hs hlen hrd hcell
      have HQ3 := Aside0.mk q3
      have HQ4 := Aside0.mk q4
      have HQ1 := Aside0.mk q1
      clear q3 q4 q1
      obtain ⟨B, hB⟩ : ∃ B : Obj, B = .cells #[.int .i64 x.f0, .int .i64 x.f1, .int .i64 x.f2, .int .i64 x.f3, .int .i64 x.f4, .int .u64 x.f5] 31 := ⟨_, rfl⟩
      have HQB : Aside0 (QAt (wr.alloc B).drew g vq (.int .i64 put') es') := ⟨QAt.chg HQ3.out (Chg.trans (Chg.alloc _ B _) (Chg.drew _ (fun _ => False))) (fun h => h) (fun _ _ h => h)⟩
      have hd0 : (wr.alloc B).cell? ⟨g, 0, none⟩ = some vq := cell_of_block HQB.out.blk 0
      have hd1 : (wr.alloc B).cell? ⟨g, 1, none⟩ = some (.int .i64 put') := cell_of_block HQB.out.blk 1
      have HHP := Aside0.mk (hpush_calls (x := ⟨x, put'⟩) (by omega) HQB.out)
      have HBB := Aside0.mk hB
      subst hB
      unfold aggE at HHP
      go_wp2
      go_region_law (go_simp; go_at_call 49; refine HHP.out.mono ?_; rintro e w3 ⟨rfl, v3, hq3, hc3⟩; have HQ5 := Aside0.mk hq3; have HC5 := Aside0.mk hc3; clear hq3 hc3)
      all_goals
        have he0 : w3.cell? ⟨g, 1, none⟩ = some (.int .i64 put') := cell_of_block HQ5.out.blk 1
        have he1 : w3.frozen? ⟨g, 1, none⟩ = false := by simp [World.frozen?, HQ5.out.blk]
        go_wp2
        go_roundw
        case rel =>
          obtain ⟨G, hG⟩ : ∃ G : Nat → Prop, G = fun k => k = g ∨ own1 v3 k := ⟨_, rfl⟩
          refine ⟨k + 1, G, by go_num, ⟨hk⟩, ⟨?_⟩, ⟨?_⟩⟩
          · exact put_chg HC.out HC5.out q2 HQ4.out hG
          · rw [HST.out, hG]
            exact put_agp HQ5.out
        case measure => simp [intOf]; omega
    · have hkn : k = n := by have := HK.out; omega
      have hfull : Aside0 (xs.take k = xs) := ⟨List.take_of_length_le (by have := HX.out; omega)⟩
      clear hcell
      go_wp2
      go_ret
      refine ⟨rfl, F', HC.out, ?_⟩
      have h := HP.out
      rw [hfull.out] at h
      exact h
end Go.Proofs.Ytopmikcljekdiaa.Ag
