/- A memory: begin, and the function values that strike calls. -/
import Derived.Test.YtopmikcljekdiaaMemA
namespace Go.Proofs.Ytopmikcljekdiaa.Ag
open Go.RowKit Go.Proofs.YtopmikcljekdiaaW.PrintWords Go.Proofs.YtopmikcljekdiaaW.PrintLast Go.Proofs.YtopmikcljekdiaaW.PrintMore Go.Proofs.Ytopmikcljekdiaa.PA Go.Proofs.Ytopmikcljekdiaa.SL
set_option linter.unusedVariables false
set_option maxRecDepth 100000
set_option maxHeartbeats 8000000
theorem check_ok {A : Option Addr} {n c : Nat} {w : World} (hn : n ≤ 1024) : Calls Try.prog 59 #[.slice A n c] w fun e w' => e = .returned (.int .i64 0) ∧ w' = w := by
  have h1 : decide ((1024 : Int) < (n : Int)) = false := decide_eq_false (by omega)
  go_enter Try.func59, Try.ntmps59
  go_wp2
  go_ret
  exact ⟨rfl, rfl⟩
theorem check_full {A : Option Addr} {n c : Nat} {w : World} (hn : 1024 < n) : Calls Try.prog 59 #[.slice A n c] w fun e w' => e = .returned (.int .i64 1) ∧ w' = w := by
  have h1 : decide ((1024 : Int) < (n : Int)) = true := decide_eq_true (by omega)
  go_enter Try.func59, Try.ntmps59
  go_wp2
  go_ret
  exact ⟨rfl, rfl⟩
theorem MmP.setAt {b j : Nat} {ws : List Int} {q q' : Option Addr} {tk tk' ah ah' : Int} {w : World} {F : Nat → Prop} {u : Value} (h : MmP b ws q tk ah w F)
    (hs : ∀ v : Value, (#[v, .pointer q, .int .i64 tk, .int .i64 ah] : Array Value).setIfInBounds j u = #[v, .pointer q', .int .i64 tk', .int .i64 ah']) : MmP b ws q' tk' ah' (w.setCell ⟨b, j, none⟩ u) F := by
  obtain ⟨h1, h2, v, h3, h4, h5, h6⟩ := h
  have hc := Chg.set w b j u h2
  refine ⟨fun k hk => Nat.lt_of_lt_of_le (h1 k hk) hc.size, h2, v, by rw [heap_setCell_same h3, hs], h4, own_chg h5 (Chg.set w b j u (F := (· = b)) rfl) (fun k hk e => h4 (by subst e; exact hk)), h6⟩
theorem St.setAt {w0 w : World} {L : List Asn} {b j : Nat} {ws : List Int} {q q' : Option Addr} {tk tk' ah ah' : Int} {u : Value} (h : St w0 w (MmA b ws q tk ah :: L))
    (hs : ∀ v : Value, (#[v, .pointer q, .int .i64 tk, .int .i64 ah] : Array Value).setIfInBounds j u = #[v, .pointer q', .int .i64 tk', .int .i64 ah']) : St w0 (w.setCell ⟨b, j, none⟩ u) (MmA b ws q' tk' ah' :: L) := by
  obtain ⟨F, hA, _, hn2⟩ := h.one
  exact hn2 _ F [_] (Chg.set w b j u hA.2.1) ⟨F, hA.setAt hs, fun _ h => h, trivial⟩
theorem St.newAt {w0 w : World} {L : List Asn} {n c : Nat} {A : Option Addr} {xs : List S31} (h : St w0 w L) (hr : Kd.C k31 w A n xs) (hx : xs.length = n) (hn : n ≤ 1024) :
    Calls Try.prog 17 #[.slice A n c] w fun e w' => ∃ g, e = .returned (.tuple #[.pointer (some ⟨g, 0, none⟩), .int .i64 0]) ∧ St w0 w' (AgA g (pushN ([], 0) xs).1 (pushN ([], 0) xs).2 :: L) := by
  refine (new_calls hx hn (fun W F' hc => chg_C hr hc)).mono ?_
  rintro e w' ⟨g, F', rfl, hc, hA⟩
  exact ⟨g, rfl, h.add hc hA⟩
theorem St.begin {w0 w : World} {L : List Asn} {b : Nat} {ws : List Int} {q : Option Addr} {tk ah : Int} {A : Option Addr} {n c : Nat} {xs : List S31} (h : St w0 w (MmA b ws q tk ah :: L)) (hr : Kd.C k31 w A n xs) (hx : xs.length = n) (hn : n ≤ 1024) :
    Calls Try.prog 52 #[.pointer (some ⟨b, 0, none⟩), .slice A n c] w fun e w' => ∃ g', e = .returned (.int .i64 0) ∧ St w0 w' (MmA b ws (some ⟨g', 0, none⟩) tk ah :: AgA g' (pushN ([], 0) xs).1 (pushN ([], 0) xs).2 :: L) := by
  have SS := Aside0.mk h
  have HR := Aside0.mk hr
  have HX := Aside0.mk hx
  have HN := Aside0.mk hn
  clear h hr hx hn
  go_enter Try.func52, Try.ntmps52
  go_wp2_with (first
    | (go_at_call 59; refine (check_ok HN.out).mono ?_; rintro e w2 ⟨rfl, hw⟩; obtain rfl := hw.symm)
    | (go_at_call 17; refine (St.newAt SS.out HR.out HX.out HN.out).mono ?_; rintro e w3 ⟨g', rfl, h⟩; have S2 := Aside0.mk h.sw1; have hfz : w3.frozen? ⟨b, 1, none⟩ = false := (by obtain ⟨F, hA, _, _⟩ := h.sw1.one; obtain ⟨_, _, v, h3, _⟩ := hA; simp [World.frozen?, h3]); have hcc : w3.cell? ⟨b, 1, none⟩ = some (.pointer q) := (by obtain ⟨F, hA, _, _⟩ := h.sw1.one; obtain ⟨_, _, _, c1, _⟩ := hA.cells; exact c1); clear h))
  go_ret
  exact ⟨g', rfl, S2.out.setAt (fun v => rfl)⟩
theorem St.beginFull {w0 w : World} {L : List Asn} {b : Nat} {A : Option Addr} {n c : Nat} (h : St w0 w L) (hn : 1024 < n) :
    Calls Try.prog 52 #[.pointer (some ⟨b, 0, none⟩), .slice A n c] w fun e w' => e = .returned (.int .i64 1) ∧ w' = w := by
  have HN := Aside0.mk hn
  clear h hn
  go_enter Try.func52, Try.ntmps52
  go_wp2_with (go_at_call 59; refine (check_full HN.out).mono ?_; rintro e w2 ⟨rfl, hw⟩; obtain rfl := hw.symm)
  go_ret
  exact ⟨rfl, rfl⟩
theorem WoR.at {w : World} {A : Option Addr} {n c : Nat} {ws : List Int} (h : WoR w (.slice A n c) ws) (hn : ws.length = n) (i : Nat) (hi : i < n) : ∃ q, A = some ⟨q, 0, none⟩ ∧ w.cell? ⟨q, i, none⟩ = some (.int .u64 (ws.getD i 0)) ∧ w.frozen? ⟨q, i, none⟩ = false := by
  subst hn
  obtain ⟨q, cap, he, _, _⟩ := World.ownsRow.form h (by omega)
  injection he with e1 e2 e3
  subst e1 e3
  refine ⟨q, rfl, ?_, ?_⟩
  · have hget : (nums .u64 ws)[i]? = some (.int .u64 (ws.getD i 0)) := by
      unfold nums
      rw [List.getElem?_map, List.getElem?_eq_getElem hi, List.getD_eq_getElem?_getD, List.getElem?_eq_getElem hi]
      rfl
    have := World.ownsRow.cells h (g := q) rfl _ _ hget
    rwa [add_plain] at this
  · rcases h.2 with ⟨h', _⟩ | ⟨g', cap', cur, h', _, hh, _⟩
    · cases h'
    · have : q = g' := by injection h' with h'; injection h' with h'; injection h' with h'
      subst this
      simp [World.frozen?, hh]
/-- The memory's words where they lie. -/
theorem St.word {w0 w : World} {L : List Asn} {b : Nat} {ws : List Int} {q : Option Addr} {tk ah : Int} (h : St w0 w (MmA b ws q tk ah :: L)) (i : Nat) (hi : i < ws.length) :
    ∃ r c, w.cell? ⟨b, 0, none⟩ = some (.slice (some ⟨r, 0, none⟩) ws.length c) ∧ w.cell? ⟨r, i, none⟩ = some (.int .u64 (ws.getD i 0)) ∧ w.frozen? ⟨r, i, none⟩ = false ∧
      ∀ u : Int, St w0 (w.setCell ⟨r, i, none⟩ (.int .u64 u)) (MmA b (ws.set i u) q tk ah :: L) := by
  obtain ⟨F, hA, _, hn2⟩ := h.one
  obtain ⟨h1, h2, v, h3, h4, h5, h6⟩ := hA
  obtain ⟨A, c, rfl⟩ := own_slice h5
  obtain ⟨r, rfl, hc, hf⟩ := WoR.at h5 rfl i hi
  refine ⟨r, c, cell_of_block h3 0, hc, hf, fun u => ?_⟩
  have hq : F r := h6 r rfl
  have hqb : r ≠ b := fun e => h4 (by subst e; rfl)
  have hch := Chg.set w r i (.int .u64 u) hq
  have h5' : w.ownsRow 0 29 1 (.slice (some ⟨r, 0, none⟩) ws.length c) ws.length (nums .u64 ws) := h5
  have hset : (nums .u64 ws).set i (.int .u64 u) = nums .u64 (ws.set i u) := by unfold nums; rw [List.map_set]
  refine hn2 _ F [_] hch ⟨F, ⟨fun k hk => Nat.lt_of_lt_of_le (h1 k hk) hch.size, h2, .slice (some ⟨r, 0, none⟩) ws.length c, (heap_set_far _ _ _ _ _ (Ne.symm hqb)).trans h3, h4, ?_, h6⟩, fun _ h => h, trivial⟩
  unfold WoR
  rw [List.length_set, ← hset]
  exact own_set h5' _
end Go.Proofs.Ytopmikcljekdiaa.Ag
