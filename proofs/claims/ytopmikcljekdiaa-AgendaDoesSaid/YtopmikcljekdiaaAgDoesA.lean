/- AgendaDoes: the short roads, and the store into a told event. -/
import Derived.Test.YtopmikcljekdiaaAgRefSt
import Derived.Test.YtopmikcljekdiaaAgRank
import Derived.Test.YtopmikcljekdiaaAgAll
import Derived.OpenShut
namespace Go.Proofs.Ytopmikcljekdiaa.Ag
open Go.RowKit Go.Proofs.YtopmikcljekdiaaW.PrintWords Go.Proofs.YtopmikcljekdiaaW.PrintLast Go.Proofs.YtopmikcljekdiaaW.PrintMore Go.Proofs.Ytopmikcljekdiaa.PA Go.Proofs.Ytopmikcljekdiaa.SL
set_option linter.unusedVariables false
set_option maxRecDepth 100000
set_option maxHeartbeats 16000000
theorem does_many {n m k c d e : Nat} {A B T : Option Addr} {w : World} (hn : (40 < n ∧ n < 1000) ∨ 1030 < n ∨ 40 < m ∨ 12 < k) : Calls Try.prog 5 #[.slice A n c, .slice B m d, .slice T k e] w fun e w' => e = .returned (.bool true) ∧ Below w.heap.size w w' := by
  have S0 := Aside0.mk (St.nil w)
  have hcs : (decide ((40 : Int) < (n : Int)) = true ∧ decide ((n : Int) < (1000 : Int)) = true) ∨
      (decide ((40 : Int) < (n : Int)) = true ∧ decide ((n : Int) < (1000 : Int)) = false ∧ decide ((1030 : Int) < (n : Int)) = true) ∨
      (decide ((40 : Int) < (n : Int)) = false ∧ decide ((1030 : Int) < (n : Int)) = false ∧ decide ((40 : Int) < (m : Int)) = true) ∨
      (decide ((40 : Int) < (n : Int)) = true ∧ decide ((n : Int) < (1000 : Int)) = false ∧ decide ((1030 : Int) < (n : Int)) = false ∧ decide ((40 : Int) < (m : Int)) = true) ∨
      (decide ((40 : Int) < (n : Int)) = false ∧ decide ((1030 : Int) < (n : Int)) = false ∧ decide ((40 : Int) < (m : Int)) = false ∧ decide ((12 : Int) < (k : Int)) = true) ∨
      (decide ((40 : Int) < (n : Int)) = true ∧ decide ((n : Int) < (1000 : Int)) = false ∧ decide ((1030 : Int) < (n : Int)) = false ∧ decide ((40 : Int) < (m : Int)) = false ∧ decide ((12 : Int) < (k : Int)) = true) := by
    simp only [decide_eq_true_eq, decide_eq_false_iff_not]
    omega
  clear hn
  rcases hcs with ⟨h1, h2⟩ | ⟨h1, h2, h3⟩ | ⟨h1, h3, h4⟩ | ⟨h1, h2, h3, h4⟩ | ⟨h1, h3, h4, h5⟩ | ⟨h1, h2, h3, h4, h5⟩
  all_goals
    go_enter Try.func5, Try.ntmps5
    go_wp2_with (go_at_call 16; refine S0.out.live.mono ?_; rintro e w1 ⟨rfl, h⟩; have S1 := Aside0.mk h; clear h)
    go_ret
    exact ⟨rfl, S1.out.below⟩
theorem does_refuse {n m k c d e : Nat} {A B T : Option Addr} {xs : List S31} {w : World} (hx : xs.length = n) (hr : Kd.C k31 w A n xs) (hn : 1024 < n) (hn2 : n ≤ 1030) (hm : m ≤ 40) (hk : k ≤ 12) :
    Calls Try.prog 5 #[.slice A n c, .slice B m d, .slice T k e] w fun e w' => e = .returned (.bool true) ∧ Below w.heap.size w w' := by
  have S0 := Aside0.mk (St.nil w)
  have h1 : decide ((40 : Int) < (n : Int)) = true := decide_eq_true (by omega)
  have h2 : decide ((n : Int) < (1000 : Int)) = false := decide_eq_false (by omega)
  have h3 : decide ((1030 : Int) < (n : Int)) = false := decide_eq_false (by omega)
  have h4 : decide ((40 : Int) < (m : Int)) = false := decide_eq_false (by omega)
  have h5 : decide ((12 : Int) < (k : Int)) = false := decide_eq_false (by omega)
  have HR := Aside0.mk hr
  have HB : Aside0 (([] : List S31).length + n ≤ 100000) := ⟨by simp; omega⟩
  have HN := Aside0.mk hn
  have HN2 : Aside0 (n ≤ 100000) := ⟨by omega⟩
  clear hx hr hn hm hk
  go_enter Try.func5, Try.ntmps5
  go_wp2_with (first
    | (go_at_call 16; refine S0.out.live.mono ?_; rintro e w1 ⟨rfl, h⟩; have S1 := Aside0.mk h; have SE := Aside0.mk (hold_nil h); clear h)
    | (at_builtin; refine St.append (ds := xs) SE.out (below_C HR.out SE.out.below) rfl (.const (.slice none 0 0)) (.tmp 46) rfl rfl rfl HB.out rfl ?_; intro A2 c2 w2 hc2 h; have S2 := Aside0.mk h; clear h hc2)
    | (go_at_call 17; refine (St.newFull S2.out HN.out HN2.out).mono ?_; rintro e w3 ⟨rfl, h⟩; have S3 := Aside0.mk h; clear h)
    | (go_at_call 22; refine (St.rnewFull S3.out HN.out HN2.out).mono ?_; rintro e w4 ⟨rfl, h⟩; have S4 := Aside0.mk h; clear h))
  go_ret
  exact ⟨rfl, S4.out.below⟩
theorem set1_enc31 (v : Int) : ∀ (es : List S31) (i : Nat) (h : i < es.length), (es.flatMap enc31).set (i * 6 + 3) (.int .i64 v) = (es.set i { es[i] with f3 := v }).flatMap enc31
  | [], i, h => by simp at h
  | a :: es, 0, _ => by simp [enc31]
  | a :: es, i + 1, h => by
    have ih := set1_enc31 v es i (by simpa using h)
    have hk : ∀ (l : List Value) (j : Nat) (v : Value), (enc31 a ++ l).set ((i + 1) * 6 + j) v = enc31 a ++ l.set (i * 6 + j) v := by
      intro l j v
      rw [List.set_append_right _ _ (by rw [enc31_len]; omega), enc31_len, show (i + 1) * 6 + j - 6 = i * 6 + j from by omega]
    simp only [List.flatMap_cons, List.set_cons_succ, List.getElem_cons_succ]
    rw [hk, ih]
theorem St.setTick {w0 w : World} {L : List Asn} {g n cap i : Nat} {es : List S31} {v : Int} (h : St w0 w (EvA (.slice (some ⟨g, 0, none⟩) n cap) es :: L)) (hn : es.length = n) (hi : i < n) : ∃ es' : List S31, es'.length = n ∧ St w0 (w.setCell ⟨g, i * 6 + 3, none⟩ (.int .i64 v)) (EvA (.slice (some ⟨g, 0, none⟩) n cap) es' :: L) := by
  subst hn
  obtain ⟨F, hA, _, hn2⟩ := h.one
  have hg : F g := hA.2.2 g rfl
  have hc := Chg.set w g (i * 6 + 3) (.int .i64 v) hg
  refine ⟨es.set i { es[i] with f3 := v }, List.length_set .., hn2 _ F [_] hc ⟨F, ⟨fun k hk => Nat.lt_of_lt_of_le (hA.1 k hk) hc.size, ?_, hA.2.2⟩, fun _ h => h, trivial⟩⟩
  have h1 : EvR w (.slice (some ⟨g, 0, none⟩) es.length cap) es := hA.2.1
  unfold EvR at h1 ⊢
  rw [List.length_set, ← set1_enc31 v es i hi]
  exact own_set h1 _
end Go.Proofs.Ytopmikcljekdiaa.Ag
