/- append of two rows of events, beside all else that is held. -/
import Derived.Test.YtopmikcljekdiaaAgNone
namespace Go.Proofs.Ytopmikcljekdiaa.Ag
open Go.RowKit Go.Proofs.YtopmikcljekdiaaW.PrintWords Go.Proofs.Ytopmikcljekdiaa.PA Go.Proofs.Ytopmikcljekdiaa.SL
set_option linter.unusedVariables false
theorem reps_enc31 {w : World} {base : Nat} {ok : Nat → Prop} : ∀ (es : List S31) (cs : List Value), Reps (k31.M w base ok) 6 es cs → cs = es.flatMap enc31
  | [], cs, h => by
    have := h.1
    exact List.eq_nil_of_length_eq_zero (by simpa using this)
  | x :: es, cs, h => by
    have h0 := k31_openM (h.2 0 x rfl)
    have hl := h.1
    have ih := reps_enc31 (w := w) (base := base) (ok := ok) es (cs.drop 6) ⟨by simp at hl ⊢; omega, fun j p hp => by
      have := h.2 (j + 1) p (by simpa using hp)
      rw [List.drop_drop, show 6 + j * 6 = (j + 1) * 6 from by omega]
      exact this⟩
    have : cs = cs.take 6 ++ cs.drop 6 := (List.take_append_drop 6 cs).symm
    rw [this, ih]
    simp only [Nat.zero_mul, List.drop_zero] at h0
    rw [h0]
    rfl
theorem EvR.of_R {w : World} {base : Nat} {ok : Nat → Prop} {v : Value} {os : List S31} (h : Kd.R k31 31 w base ok v os) : w.ownsRow base 31 6 v os.length (os.flatMap enc31) := by
  obtain ⟨_, inner, h2, h3⟩ := h
  obtain rfl := reps_enc31 os inner h3
  exact h2
theorem St.append {w0 W : World} {L : List Asn} {n m c d : Nat} {A B : Option Addr} {os ps ds : List S31} {ops : Array Oper} {rest : List Oper} {o : Oper} {a : Act} {Q : Exit → Act → World → Prop}
    (h : St w0 W (EvA (.slice A n c) os :: L)) (hy : Kd.C k31 W B m ps) (hgd : o.guard = none) (s x : Operand) (ho : o.op = .call { callee := .builtin .append, args := #[s, x], argTypes := #[22, 22] })
    (hs : a.eval s = .slice A n c) (hx : a.eval x = .slice B m d) (hl : os.length + m ≤ 100000) (hds : os ++ ps = ds)
    (k : ∀ A' c' w1, ds.length ≤ c' → St w0 w1 (EvA (.slice A' ds.length c') ds :: L) → wpList Try.prog ops Q rest (a.put o.dst (.slice A' ds.length c')) w1) :
    wpList Try.prog ops Q (o :: rest) a W := by
  subst hds
  obtain ⟨F, ⟨hlt, hE, hF⟩, hb, hn2⟩ := h.one
  refine Kd.R_append_rows (w0 := W) k31 0 hgd s x 22 31 (.agg #[.int .i64 0, .int .i64 0, .int .i64 0, .int .i64 0, .int .i64 0, .int .u64 0]) 48 ho Try.underlying22 info31 rfl (by decide) (by decide) (.slice A n c) os ps B m d (fun _ => True) (fun _ => False) hs hx hE.R hy (fun x cs hk => by rw [k31_open hk]; exact k31_mkM _ _ _ _) (fun _ hk => hk.elim) (fun _ _ => trivial) (Below.refl _ _) (Nat.zero_le _) (by omega) ?_
  intro v1 w1 hr hb1 hg hat
  have hE1 : EvR w1 v1 (os ++ ps) := EvR.of_R hr
  obtain ⟨A', c', rfl, hc, _⟩ := hE1.form
  refine k A' c' w1 hc (hn2 w1 (own1 (.slice A' (os ++ ps).length c')) [_] ⟨hg.os, hg.tape, hg.output, hg.size, fun k hk hn => hg.block k hk (fun e => hn (hF k e.symm)), fun k hk => ?_⟩ ⟨_, ⟨fun k hk => own1_lt hE1 k hk, hE1, fun _ h => h⟩, fun _ h => h, trivial⟩)
  rcases hat with hat | ⟨b, hat, hbb⟩
  · exact .inl (hF k (by unfold own1 at hk ⊢; rw [← hat]; exact hk))
  · refine .inr ?_
    unfold own1 at hk
    rw [hat] at hk
    cases hk
    exact hbb
end Go.Proofs.Ytopmikcljekdiaa.Ag
