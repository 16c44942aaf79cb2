/- The statement CodeMakes: what Fix tells is a codeword, with its fixes made; for any prime and words. -/
import Derived.Test.YtcmipgccfgloiaaPDx2
import Derived.Test.YtcmipgccfgloiaaCP4
import Derived.Test.YtcmipgccfgloiaaCBase
namespace Go.Proofs.Ytcmipgccfgloiaa.Pure
open Go.RowKit Go.Proofs.Ytcmipgccfgloiaa.PC Go.Proofs.Ytcmipgccfgloiaa.PD Go.Proofs.YtcmipgccfgloiaaW.PrintWords Go.Proofs.YtcmipgccfgloiaaW.PrintLast Go.Proofs.Ytcmipgccfgloiaa.Given Go.Proofs.Ytcmipgccfgloiaa.Cd Go.Proofs.Ytcmipgccfgloiaa.CG
set_option linter.unusedVariables false
set_option linter.unusedSimpArgs false
/-- fixes that can be made, one behind the other. -/
def okF : List S35 → List Int → Int → Prop
  | [], _, _ => True
  | f :: r, made, last => last < f.f0 ∧ 0 ≤ f.f0 ∧ f.f0 < made.length ∧ rd made f.f0 = f.f1 ∧ f.f1 ≠ f.f2 ∧ okF r (made.set f.f0.toNat f.f2) f.f0
def mkF : List S35 → List Int → List Int
  | [], made => made
  | f :: r, made => mkF r (made.set f.f0.toNat f.f2)
/-- how many are words. -/
def cw (n : Int) : List S35 → Nat
  | [] => 0
  | f :: r => (if f.f0 < n then 1 else 0) + cw n r
theorem okF_weak {F : List S35} {made : List Int} {a b : Int} (h : okF F made b) (hab : a ≤ b) : okF F made a := by
  cases F with
  | nil => trivial
  | cons f r => exact ⟨by have := h.1; omega, h.2⟩
theorem okF_append : ∀ (F G : List S35) (made : List Int) (last L : Int), okF F made last → last ≤ L → (∀ f ∈ F, f.f0 ≤ L) → okF G (mkF F made) L → okF (F ++ G) made last
  | [], G, made, last, L, _, hl, _, hG => okF_weak hG hl
  | f :: r, G, made, last, L, h, hl, hF, hG => ⟨h.1, h.2.1, h.2.2.1, h.2.2.2.1, h.2.2.2.2.1, okF_append r G _ _ L h.2.2.2.2.2 (hF f (by simp)) (fun g hg => hF g (by simp [hg])) hG⟩
theorem mkF_append : ∀ (F G : List S35) (made : List Int), mkF (F ++ G) made = mkF G (mkF F made)
  | [], _, _ => rfl
  | f :: r, G, made => mkF_append r G _
theorem cw_append (n : Int) : ∀ (F G : List S35), cw n (F ++ G) = cw n F + cw n G
  | [], _ => by simp [cw]
  | f :: r, G => by
    show (if f.f0 < n then 1 else 0) + cw n (r ++ G) = (if f.f0 < n then 1 else 0) + cw n r + cw n G
    rw [cw_append n r G, Nat.add_assoc]
theorem cw_le (n : Int) : ∀ F : List S35, cw n F ≤ F.length
  | [] => by simp [cw]
  | f :: r => by
    have := cw_le n r
    simp only [cw, List.length_cons]
    split <;> omega
theorem makes_l0 {p n : Int} {c got : List Int} {F : List S35} (hn : wrap64 ((c.length : Int) - 6) = n) (hlook : code_Look.f p got = some (true, 0)) (hfix : code_Fix.f p got = some (got, [], 0)) (hg : got.length < 4611686018427387904)
    (hF : F.length ≤ 3) : ∀ (rest pre : List S35) (made : List Int) (last : Int) (words : Nat), F = pre ++ rest → okF rest made last → words ≤ pre.length → words + cw n rest ≤ 1 → (F.length : Int) - (words + cw n rest : Nat) ≤ 2 → mkF rest made = got →
    Ev (fun k => brackenlaw14_CodeMakes.l0 k p c got F made last (words : Int) F (F.length : Int) (pre.length : Int)) true := by
  intro rest
  induction rest with
  | nil =>
    intro pre made last words hp ok hw h1 h2 hm
    rw [List.append_nil] at hp
    subst hp
    simp only [mkF] at hm
    subst hm
    refine Ev.step (fun k => brackenlaw14_CodeMakes.l0.eq_2 _ _ _ _ _ _ _ _ _ _ k) ?_
    refine Ev.neg (by omega) (Ev.bindo hlook (Ev.bindo hfix (Ev.pos rfl (Ev.pos rfl (Ev.pos rfl (Ev.pos rfl ?_))))))
    refine Ev.bind (same01_ev made made hg) (Ev.pos (by simp) ?_)
    refine Ev.bind (same01_ev made made hg) (Ev.pos (by simp) ?_)
    simp only [cw, Nat.add_zero] at h1 h2
    refine Ev.pos (by omega) (Ev.eq (Ev.now _) ?_)
    rw [wrap_in (by omega) (by omega), decide_eq_true_eq]
    exact h2
  | cons f r ih =>
    intro pre made last words hp ok hw h1 h2 hm
    have hlen : F.length = pre.length + (r.length + 1) := by rw [hp]; simp
    have hrd : rd_T35 F (pre.length : Int) = f := by rw [hp]; simp [rd_T35]
    obtain ⟨o1, o2, o3, o4, o5, o6⟩ := ok
    refine Ev.step (fun k => brackenlaw14_CodeMakes.l0.eq_2 _ _ _ _ _ _ _ _ _ _ k) ?_
    rw [hrd]
    refine Ev.pos (by omega) (Ev.pos (by omega) (Ev.pos (by omega) (Ev.neg (by omega) (Ev.neg (by omega) (Ev.pos (by omega) (Ev.pos (by omega) (Ev.pos o4 ?_)))))))
    refine Ev.step (fun k => brackenlaw14_CodeMakes.j1.eq_2 _ _ _ _ _ _ _ _ _ _ _ _ _ k) ?_
    refine Ev.neg (by simpa using o5) (Ev.pos (by omega) (Ev.pos (by omega) (Ev.bindo rfl ?_)))
    have ei : wrap64 ((pre.length : Int) + 1) = ((pre ++ [f]).length : Int) := by rw [wrap_in (by omega) (by omega)]; simp
    have ew : wrap64 ((words : Int) + 1) = ((words + 1 : Nat) : Int) := by rw [wrap_in (by omega) (by omega)]; omega
    rw [hn, ei, ew]
    clear ei ew
    simp only [mkF] at hm
    have hp' : F = (pre ++ [f]) ++ r := by rw [hp]; simp
    simp only [cw] at h1 h2
    refine Ev.ite (fun h => ?_) (fun h => ?_)
    · rw [if_pos h] at h1 h2
      exact ih (pre ++ [f]) _ _ (words + 1) hp' o6 (by simp; omega) (by omega) (by omega) hm
    · rw [if_neg h] at h1 h2
      exact ih (pre ++ [f]) _ _ words hp' o6 (by simp; omega) (by omega) (by omega) hm
theorem tri_at (pre post : List Int) (j : Nat) (l : List Int) (h : j < l.length) : rd (pre ++ (l ++ post)) ((pre.length + j : Nat) : Int) = rd l j := by
  rw [rd_nat, rd_nat, List.getD_eq_getElem?_getD, List.getD_eq_getElem?_getD, List.getElem?_append_right (by omega), Nat.add_sub_cancel_left, List.getElem?_append_left h]
theorem tri_set (pre post : List Int) (j : Nat) (v : Int) (l : List Int) (h : j < l.length) : (pre ++ (l ++ post)).set (pre.length + j) v = pre ++ (l.set j v ++ post) := by
  rw [List.set_append_right _ _ (by omega), Nat.add_sub_cancel_left, List.set_append_left _ _ h]
theorem tri {x y z last n : Int} {b m : Nat} {pre post : List Int} (ht : (told x y z).2.2 = true) (hp : pre.length = m + b) (hm : m + b ≤ 10000) (hl : last < m + b) (hn : n ≤ m + b) :
    okF ((fixOf b x y z).map (fun f : S35 => ⟨wrap64 (f.f0 + (m : Int)), f.f1, f.f2⟩)) (pre ++ ([x, y, z] ++ post)) last ∧
      mkF ((fixOf b x y z).map (fun f : S35 => ⟨wrap64 (f.f0 + (m : Int)), f.f1, f.f2⟩)) (pre ++ ([x, y, z] ++ post)) = pre ++ ([(told x y z).1, (told x y z).1, (told x y z).1] ++ post) ∧
      cw n ((fixOf b x y z).map (fun f : S35 => ⟨wrap64 (f.f0 + (m : Int)), f.f1, f.f2⟩)) = 0 ∧ (∀ f ∈ (fixOf b x y z).map (fun f : S35 => (⟨wrap64 (f.f0 + (m : Int)), f.f1, f.f2⟩ : S35)), f.f0 ≤ m + b + 2) ∧ ((fixOf b x y z).map (fun f : S35 => (⟨wrap64 (f.f0 + (m : Int)), f.f1, f.f2⟩ : S35))).length ≤ 1 := by
  have key : ∀ (j : Nat) (l : List Int) (bad v : Int), j < 3 → l.length = 3 → rd l j = bad → bad ≠ v → l.set j v = [v, v, v] →
      okF [⟨wrap64 ((b : Int) + j + m), bad, v⟩] (pre ++ (l ++ post)) last ∧ mkF [⟨wrap64 ((b : Int) + j + m), bad, v⟩] (pre ++ (l ++ post)) = pre ++ ([v, v, v] ++ post) ∧ cw n [⟨wrap64 ((b : Int) + j + m), bad, v⟩] = 0 ∧
      (∀ f ∈ [(⟨wrap64 ((b : Int) + j + m), bad, v⟩ : S35)], f.f0 ≤ m + b + 2) ∧ [(⟨wrap64 ((b : Int) + j + m), bad, v⟩ : S35)].length ≤ 1 := by
    intro j l bad v hj hl3 hr hne hs
    have e : wrap64 ((b : Int) + j + m) = ((pre.length + j : Nat) : Int) := by rw [wrap_in (by omega) (by omega)]; omega
    rw [e]
    refine ⟨⟨by show last < ((pre.length + j : Nat) : Int); omega, by show (0 : Int) ≤ ((pre.length + j : Nat) : Int); omega, ?_, ?_, hne, trivial⟩, ?_, ?_, ?_, by simp⟩
    · show ((pre.length + j : Nat) : Int) < ((pre ++ (l ++ post)).length : Int)
      simp; omega
    · rw [tri_at pre post j l (by omega), hr]
    · show (pre ++ (l ++ post)).set (((pre.length + j : Nat) : Int)).toNat v = _
      rw [Int.toNat_natCast, tri_set pre post j v l (by omega), hs]
    · show (if ((pre.length + j : Nat) : Int) < n then 1 else 0) + 0 = 0
      rw [if_neg (by omega)]
    · intro f hf
      rw [List.mem_singleton] at hf
      subst hf
      show ((pre.length + j : Nat) : Int) ≤ _
      omega
  obtain ⟨v, ev, h⟩ := told_ways ht b
  rw [ev]
  rcases h with ⟨e, rfl, rfl, rfl⟩ | ⟨bad, hne, ⟨e, rfl, rfl, rfl⟩ | ⟨e, rfl, rfl, rfl⟩ | ⟨e, rfl, rfl, rfl⟩⟩
  · rw [e]
    exact ⟨trivial, rfl, rfl, by simp, by simp⟩
  · rw [e]
    have := key 0 [_, _, _] _ _ (by omega) rfl (show rd [_, _, _] ((0 : Nat) : Int) = _ from rfl) hne rfl
    rw [show ((b : Int) + (0 : Nat)) = (b : Int) by omega] at this
    exact this
  · rw [e]
    exact key 1 [_, _, _] _ _ (by omega) rfl rfl hne rfl
  · rw [e]
    exact key 2 [_, _, _] _ _ (by omega) rfl rfl hne rfl
theorem CodeMakes : brackenlaw14_CodeMakes.Pure := by
  intro a0 l1 w0 h1 h2 hw
  have hu := wf_all hw
  refine Ev.rounds (g := fun k => brackenlaw14_CodeMakes.f k a0 l1) ?_
  unfold brackenlaw14_CodeMakes.f
  refine Ev.bindo (a := true) rfl (Ev.pos rfl ?_)
  refine Ev.ite (fun _ => Ev.now _) (fun hlen => ?_)
  refine Ev.bindo (fix_f hu) ?_
  by_cases he : (fixV a0 l1).2.2 = 0
  · refine Ev.pos he (Ev.pos (by simp; omega) ?_)
    rw [List.nil_append]
    obtain ⟨⟨got, F, er⟩, hf⟩ : ∃ q, fixV a0 l1 = q := ⟨_, rfl⟩
    rw [hf] at he ⊢
    dsimp only at he ⊢
    subst he
    obtain ⟨x, a1, a2, a3, b1, b2, b3, x', hc, hxl, hx1, hx2, G, hgot, ta, tb, e0, e1, hw⟩ := fix_made (fun y hy => (hu y hy).1) hf
    have hcl : l1.length = x.length + 6 := by rw [hc]; simp
    have hn : wrap64 ((l1.length : Int) - 6) = (x.length : Int) := by rw [wrap_in (by omega) (by omega)]; omega
    have hgl : got.length = x.length + 6 := by rw [hgot, code_len, hxl]
    have hx'u : ∀ y ∈ x', U64 y := by
      intro y hy
      rcases hw with ⟨rfl, _⟩ | ⟨t, G', ht, rfl, hne, _⟩
      · exact hu y (by rw [hc]; simp [hy])
      · have hsm := G.small y hy
        have hbd := G.known.bd
        rcases List.mem_or_eq_of_mem_set hy with hy | rfl
        · exact hu y (by rw [hc]; simp [hy])
        · exact ⟨hne.2, by omega⟩
    have hgu : ∀ y ∈ got, U64 y := by rw [hgot]; exact code_U64 G hx'u
    have hL : code_Look.f a0 got = some (true, 0) := by rw [look_f hgu, hgot, look_code G]
    have hX : code_Fix.f a0 got = some (got, [], 0) := by rw [fix_f hgu, hgot, fix_code G]
    have hA := fun last hl => tri (last := last) (n := (x.length : Int)) (b := 0) (m := x.length) (pre := x') (post := [b1, b2, b3]) ta (by omega) (by omega) hl (by omega)
    have hB := tri (last := (x.length : Int) + 2) (n := (x.length : Int)) (b := 3) (m := x.length) (pre := x' ++ [(told a1 a2 a3).1, (told a1 a2 a3).1, (told a1 a2 a3).1]) (post := []) tb (by simp; omega) (by omega) (by omega) (by omega)
    have hgot2 : x' ++ [(told a1 a2 a3).1, (told a1 a2 a3).1, (told a1 a2 a3).1] ++ ([(told b1 b2 b3).1, (told b1 b2 b3).1, (told b1 b2 b3).1] ++ []) = got := by
      rw [hgot, code, e0, e1]
      simp [wholeV]
    have hmid : x' ++ ([(told a1 a2 a3).1, (told a1 a2 a3).1, (told a1 a2 a3).1] ++ [b1, b2, b3]) = x' ++ [(told a1 a2 a3).1, (told a1 a2 a3).1, (told a1 a2 a3).1] ++ ([b1, b2, b3] ++ []) := by simp
    have hAB : ∀ last : Int, last < x.length → okF ((fixOf 0 a1 a2 a3 ++ fixOf 3 b1 b2 b3).map (fun f : S35 => ⟨wrap64 (f.f0 + (x.length : Int)), f.f1, f.f2⟩)) (x' ++ ([a1, a2, a3] ++ [b1, b2, b3])) last ∧
        mkF ((fixOf 0 a1 a2 a3 ++ fixOf 3 b1 b2 b3).map (fun f : S35 => ⟨wrap64 (f.f0 + (x.length : Int)), f.f1, f.f2⟩)) (x' ++ ([a1, a2, a3] ++ [b1, b2, b3])) = got ∧
        cw (x.length : Int) ((fixOf 0 a1 a2 a3 ++ fixOf 3 b1 b2 b3).map (fun f : S35 => ⟨wrap64 (f.f0 + (x.length : Int)), f.f1, f.f2⟩)) = 0 ∧ ((fixOf 0 a1 a2 a3 ++ fixOf 3 b1 b2 b3).map (fun f : S35 => (⟨wrap64 (f.f0 + (x.length : Int)), f.f1, f.f2⟩ : S35))).length ≤ 2 := by
      intro last hl
      obtain ⟨A1, A2, A3, A4, A5⟩ := hA last (by omega)
      obtain ⟨B1, B2, B3, B4, B5⟩ := hB
      rw [List.map_append, mkF_append, cw_append, A2, A3, B3, hmid, B2]
      refine ⟨okF_append _ _ _ _ ((x.length : Int) + 2) A1 (by omega) (fun f hf => by have := A4 f hf; omega) ?_, hgot2, rfl, by rw [List.length_append]; omega⟩
      rw [A2, hmid]
      exact B1
    rcases hw with ⟨rfl, hF⟩ | ⟨t, G', ht, rfl, hne, hF⟩
    · obtain ⟨C1, C2, C3, C4⟩ := hAB (-1) (by omega)
      rw [← hF] at C1 C2 C3 C4
      have hc' : l1 = x' ++ ([a1, a2, a3] ++ [b1, b2, b3]) := hc
      rw [← hc'] at C1 C2
      exact makes_l0 hn hL hX (by omega) (by omega) F [] l1 (-1) 0 rfl C1 (by simp) (by omega) (by rw [C3]; omega) C2
    · obtain ⟨C1, C2, C3, C4⟩ := hAB (t : Int) (by omega)
      have hset : l1.set t G' = x.set t G' ++ ([a1, a2, a3] ++ [b1, b2, b3]) := by
        rw [hc, List.set_append_left _ _ ht]; rfl
      have hrd : rd l1 (t : Int) = rd x (t : Int) := by
        rw [hc, rd_nat, rd_nat, List.getD_eq_getElem?_getD, List.getD_eq_getElem?_getD, List.getElem?_append_left ht]
      rw [← hset] at C1 C2
      subst hF
      refine makes_l0 hn hL hX (by omega) (by simp only [List.length_cons]; omega) _ [] l1 (-1) 0 rfl ?_ (by simp) ?_ ?_ ?_
      · exact ⟨by show (-1 : Int) < t; omega, by show (0 : Int) ≤ t; omega, by show (t : Int) < _; omega, hrd, hne.1, by simpa using C1⟩
      · show 0 + ((if (t : Int) < x.length then 1 else 0) + cw _ _) ≤ 1
        rw [C3]; split <;> omega
      · show _ - ((0 + ((if (t : Int) < x.length then 1 else 0) + cw _ _) : Nat) : Int) ≤ 2
        rw [C3, if_pos (by omega)]
        simp only [List.length_cons]
        omega
      · simpa [mkF] using C2
  · have hq := fix_no he
    refine Ev.neg he (Ev.eq (Ev.now _) ?_)
    rw [hq.1, hq.2, wrap_in (by simp) (by simp)]
    simp
end Go.Proofs.Ytcmipgccfgloiaa.Pure
