/- Lemmas for AgendaFull. -/
import Derived.Test.YtopmikcljekdiaaAgApp
import Derived.ArgAppend
import Derived.OwnWalk
namespace Go.Proofs.Ytopmikcljekdiaa.Ag
open Go.RowKit Go.Proofs.YtopmikcljekdiaaW.PrintWords Go.Proofs.Ytopmikcljekdiaa.PA Go.Proofs.Ytopmikcljekdiaa.SL
set_option linter.unusedVariables false
/-- Two of those that are held: the second one stands still while the first one is changed. -/
theorem St.two {w0 w : World} {A B : Asn} {L : List Asn} (h : St w0 w (A :: B :: L)) :
    ∃ F F2, A.P w F ∧ B.P w F2 ∧ (∀ W F', Chg w W F F' → B.P W F2) ∧ ∀ w' F' As', Chg w w' F F' → Stars w' As' F' → St w0 w' (As' ++ B :: L) := by
  obtain ⟨F0, ⟨F1, hA, hF1, F2, hB, hF2, _⟩, hn⟩ := Held.step (As := [A, B]) h.held
  have hmv : ∀ W F', Chg w W F1 F' → B.P W F2 := fun W F' hc => B.move hB (fun k hk => hc.keep k (B.lt hB k hk) (hF2 k hk).2)
  refine ⟨F1, F2, hA, hB, hmv, fun w' F' As' hc hs => ?_⟩
  have hc2 : Chg w w' F0 (fun k => F' k ∨ F2 k) := Chg.weaken (F' := F') ⟨hc.os, hc.tape, hc.output, hc.size, hc.keep, hc.into⟩ hF1 (fun k hk => by
    rcases hk with hk | hk
    · exact (hc.into k hk).elim (fun h => .inl (hF1 k h)) .inr
    · exact .inl (hF2 k hk).1)
  have hs2 : Stars w' (As' ++ [B]) (fun k => F' k ∨ F2 k) := Stars.join (F1 := F') hs (fun k hk => .inl hk) ⟨F2, hmv w' F' hc, fun k hk => ⟨.inr hk, fun h => (hc.into k h).elim (hF2 k hk).2 (fun h => by have := B.lt hB k hk; omega)⟩, trivial⟩
  have h2 := hn w' _ (As' ++ [B]) hc2 hs2
  rw [List.append_assoc] at h2
  exact ⟨h.below.trans h2.2, h2.1⟩
theorem EvR.cut {w : World} {A : Option Addr} {n m c : Nat} {os : List S31} (h : EvR w (.slice A n c) os) (hn : os.length = n) (hm : m ≤ n) : Kd.C k31 w A m (os.take m) := by
  subst hn
  have := Kd.C_take (h.C rfl) hm
  rw [List.length_take, Nat.min_eq_left hm] at this
  exact this
/-- Put, of what is held itself. -/
theorem St.put2 {w0 w : World} {L : List Asn} {g n m c d : Nat} {es : List S81} {put : Int} {A : Option Addr} {os : List S31} (h : St w0 w (AgA g es put :: EvA (.slice A n c) os :: L)) (hx : os.length = n) (hm : m ≤ n) (hn : es.length + m ≤ 1024) (hp : 0 ≤ put ∧ put ≤ 1000000) :
    Calls Try.prog 20 #[.pointer (some ⟨g, 0, none⟩), .slice A m d] w fun e w' => e = .returned (.int .i64 0) ∧ St w0 w' (AgA g (pushN (es, put) (os.take m)).1 (pushN (es, put) (os.take m)).2 :: EvA (.slice A n c) os :: L) := by
  obtain ⟨F, F2, hA, hB, hb, hn2⟩ := h.two
  refine (put_calls hA (by rw [List.length_take]; omega) hn hp (fun W F' hc => (hb W F' hc).2.1.cut hx hm)).mono ?_
  rintro e w' ⟨rfl, F', hc, hA'⟩
  exact ⟨rfl, hn2 w' F' [_] hc ⟨F', hA', fun _ h => h, trivial⟩⟩
theorem St.putFull {w0 w : World} {L : List Asn} {g n c : Nat} {es : List S81} {put : Int} {A : Option Addr} (h : St w0 w (AgA g es put :: L)) (he : es.length ≤ 1024) (hn : 1024 < es.length + n) (hn2 : n ≤ 100000) :
    Calls Try.prog 20 #[.pointer (some ⟨g, 0, none⟩), .slice A n c] w fun e w' => e = .returned (.int .i64 1) ∧ w' = w := by
  obtain ⟨F, hA, _, _⟩ := h.one
  exact put_full hA he hn hn2
theorem St.putNone {w0 w : World} {L : List Asn} {g : Nat} {es : List S81} {put : Int} (h : St w0 w (AgA g es put :: L)) (he : es.length ≤ 1024) (hp : 0 ≤ put ∧ put ≤ 1000000) :
    Calls Try.prog 20 #[.pointer (some ⟨g, 0, none⟩), .slice none 0 0] w fun e w' => e = .returned (.int .i64 0) ∧ St w0 w' (AgA g es put :: L) := by
  obtain ⟨F, hA, hb, hn2⟩ := h.one
  refine (put_calls (xs := []) hA rfl he hp (fun W F' hc => ⟨rfl, by simp, fun h => by simp at h⟩)).mono ?_
  rintro e w' ⟨rfl, F', hc, hA'⟩
  exact ⟨rfl, hn2 w' F' [_] hc ⟨F', hA', fun _ h => h, trivial⟩⟩
/-- New, of what is held itself. -/
theorem St.new2 {w0 w : World} {L : List Asn} {n m c d : Nat} {A : Option Addr} {os : List S31} (h : St w0 w (EvA (.slice A n c) os :: L)) (hx : os.length = n) (hm : m ≤ n) (hn : m ≤ 1024) :
    Calls Try.prog 17 #[.slice A m d] w fun e w' => ∃ g, e = .returned (.tuple #[.pointer (some ⟨g, 0, none⟩), .int .i64 0]) ∧ St w0 w' (AgA g (pushN ([], 0) (os.take m)).1 (pushN ([], 0) (os.take m)).2 :: EvA (.slice A n c) os :: L) := by
  obtain ⟨F, hA, _, _⟩ := h.one
  refine (new_calls (by rw [List.length_take]; omega) hn (fun W F' hc => chg_C (hA.2.1.cut hx hm) hc)).mono ?_
  rintro e w' ⟨g, F', rfl, hc, hA'⟩
  exact ⟨g, rfl, h.add hc hA'⟩
theorem St.newFull {w0 w : World} {L : List Asn} {n c : Nat} {A : Option Addr} (h : St w0 w L) (hn : 1024 < n) (hn2 : n ≤ 100000) :
    Calls Try.prog 17 #[.slice A n c] w fun e w' => e = .returned (.tuple #[.pointer none, .int .i64 1]) ∧ St w0 w' L := by
  refine (new_full hn hn2).mono ?_
  rintro e w' ⟨rfl, hc⟩
  exact ⟨rfl, h.then (hc.below (base := w.heap.size) (fun _ h => h.elim) (Nat.le_refl _))⟩
/-- make([]Event, m). -/
theorem St.make {w0 W : World} {L : List Asn} {m : Nat} {ops : Array Oper} {rest : List Oper} {o : Oper} {a : Act} {Q : Exit → Act → World → Prop}
    (h : St w0 W L) (hgd : o.guard = none) {N : Tmp} (hd : o.dst = some N) (x y : Operand) (ho : o.op = .makeSlice 22 x y) (hx : a.eval x = .int .i64 (m : Int)) (hy : a.eval y = .int .i64 (m : Int)) (hm : m ≤ 100000)
    (k : ∀ g c w1, m ≤ c → St w0 w1 (EvA (.slice (some ⟨g, 0, none⟩) m c) (List.replicate m z31) :: L) → wpList Try.prog ops Q rest (a.put o.dst (.slice (some ⟨g, 0, none⟩) m c)) w1) (hm0 : 0 < m) :
    wpList Try.prog ops Q (o :: rest) a W := by
  refine Kd.R_make (w0 := W) k31 0 31 hgd hd 22 x y ho (m : Int) hx hy Try.underlying22 (.agg #[.int .i64 0, .int .i64 0, .int .i64 0, .int .i64 0, .int .i64 0, .int .u64 0]) 48 info31 rfl (by decide) (by decide) z31 (ok := fun _ => True) (okp := fun _ => False) (k31_mkM _ _ _ _) (fun _ h => h.elim) trivial (by omega) (by simp only [Int.toNat_natCast]; omega) (Below.refl _ _) (Nat.zero_le _) ?_
  intro v1 w1 hr hb1 hg ⟨b, hat, hbb⟩
  rw [Int.toNat_natCast] at hr
  have hE1 : EvR w1 v1 (List.replicate m z31) := EvR.of_R hr
  obtain ⟨A', c', rfl, hc, _⟩ := hE1.form
  have hfo := World.ownsRow.form hE1 (by rw [List.length_replicate]; exact hm0)
  obtain ⟨g, cap, he, _, _⟩ := hfo
  injection he with he1 he2 he3
  subst he1
  rw [List.length_replicate] at hc hE1 ⊢
  have hE2 : EvR w1 (.slice (some ⟨g, 0, none⟩) m c') (List.replicate m z31) := hE1
  have hgb : g = b := by simpa [Value.ownBlock] using hat
  refine k g c' w1 hc (h.add (F' := fun k => k = g) ⟨hg.os, hg.tape, hg.output, hg.size, fun k hk _ => hg.block k hk (fun e => by cases e), fun k hk => .inr (by omega)⟩ ⟨fun k hk => ?_, hE2, fun k hk => ?_⟩)
  · obtain ⟨g', cap', he', _, hlt⟩ := World.ownsRow.form hE1 (by rw [List.length_replicate]; exact hm0)
    injection he' with he1 he2 he3
    injection he1 with he1
    injection he1 with he1
    omega
  · have : g = k := by simpa [own1, Value.ownBlock] using hk
    omega
/-- An event's six cells, written one by one. -/
def putAt31 (w : World) (g i : Nat) (x : S31) : World :=
  ((((((w.setCell ⟨g, i * 6, none⟩ (.int .i64 x.f0)).setCell ⟨g, i * 6 + 1, none⟩ (.int .i64 x.f1)).setCell ⟨g, i * 6 + 2, none⟩ (.int .i64 x.f2)).setCell ⟨g, i * 6 + 3, none⟩ (.int .i64 x.f3)).setCell ⟨g, i * 6 + 4, none⟩ (.int .i64 x.f4)).setCell ⟨g, i * 6 + 5, none⟩ (.int .u64 x.f5))
theorem sets_enc31 (x : S31) : ∀ (es : List S31) (i : Nat), i < es.length →
    ((((((es.flatMap enc31).set (i * 6) (.int .i64 x.f0)).set (i * 6 + 1) (.int .i64 x.f1)).set (i * 6 + 2) (.int .i64 x.f2)).set (i * 6 + 3) (.int .i64 x.f3)).set (i * 6 + 4) (.int .i64 x.f4)).set (i * 6 + 5) (.int .u64 x.f5) = (es.set i x).flatMap enc31
  | [], i, h => by simp at h
  | a :: es, 0, _ => by simp [enc31]
  | a :: es, i + 1, h => by
    have ih := sets_enc31 x es i (by simpa using h)
    have hk : ∀ (l : List Value) (j : Nat) (v : Value), (enc31 a ++ l).set ((i + 1) * 6 + j) v = enc31 a ++ l.set (i * 6 + j) v := by
      intro l j v
      rw [List.set_append_right _ _ (by rw [enc31_len]; omega), enc31_len, show (i + 1) * 6 + j - 6 = i * 6 + j from by omega]
    have hk0 := fun (l : List Value) (v : Value) => hk l 0 v
    simp only [Nat.add_zero] at hk0
    simp only [List.flatMap_cons, List.set_cons_succ]
    rw [hk0, hk, hk, hk, hk, hk, ih]
theorem putAt31_own {w : World} {g n cap i : Nat} {es : List S31} (h : EvR w (.slice (some ⟨g, 0, none⟩) n cap) es) (hn : es.length = n) (x : S31) (hi : i < n) : EvR (putAt31 w g i x) (.slice (some ⟨g, 0, none⟩) n cap) (es.set i x) := by
  subst hn
  unfold EvR at h ⊢
  rw [← sets_enc31 x es i hi, List.length_set]
  exact own_set (own_set (own_set (own_set (own_set (own_set h _) _) _) _) _) _
theorem Chg.putAt31 (w : World) (g i : Nat) (x : S31) {F : Nat → Prop} (h : F g) : Chg w (putAt31 w g i x) F F :=
  Chg.trans (Chg.trans (Chg.trans (Chg.trans (Chg.trans (Chg.set w g _ _ h) (Chg.set _ g _ _ h)) (Chg.set _ g _ _ h)) (Chg.set _ g _ _ h)) (Chg.set _ g _ _ h)) (Chg.set _ g _ _ h)
theorem St.putAt31 {w0 w : World} {L : List Asn} {g n cap i : Nat} {es : List S31} (h : St w0 w (EvA (.slice (some ⟨g, 0, none⟩) n cap) es :: L)) (hn : es.length = n) (x : S31) (hi : i < n) : St w0 (putAt31 w g i x) (EvA (.slice (some ⟨g, 0, none⟩) n cap) (es.set i x) :: L) := by
  obtain ⟨F, hA, _, hn2⟩ := h.one
  have hg : F g := hA.2.2 g rfl
  have hc := Chg.putAt31 w g i x hg
  refine hn2 _ F [_] hc ⟨F, ⟨fun k hk => Nat.lt_of_lt_of_le (hA.1 k hk) hc.size, putAt31_own hA.2.1 hn x hi, hA.2.2⟩, fun _ h => h, trivial⟩
theorem cells_at31 {w : World} {g n cap : Nat} {es : List S31} (h : EvR w (.slice (some ⟨g, 0, none⟩) n cap) es) (hn : es.length = n) (i : Nat) (hi : i < n) (j : Nat) (hj : j < 6) :
    (∃ u, w.cell? ⟨g, i * 6 + j, none⟩ = some u) ∧ w.frozen? ⟨g, i * 6 + j, none⟩ = false := by
  subst hn
  have hlen := encs31_len es
  have hget : (es.flatMap enc31)[i * 6 + j]? = some ((es.flatMap enc31)[i * 6 + j]'(by omega)) := List.getElem?_eq_getElem _
  constructor
  · refine ⟨(es.flatMap enc31)[i * 6 + j]'(by omega), ?_⟩
    have := World.ownsRow.cells h (g := g) rfl _ _ hget
    rwa [add_plain] at this
  · rcases h.2 with ⟨h', _⟩ | ⟨g', cap', cur, h', _, hh, _⟩
    · cases h'
    · have : g = g' := by injection h' with h'; injection h' with h'; injection h' with h'
      subst this
      simp [World.frozen?, hh]
/-- append(l, x) where l goes on being used: l stands as it was. -/
theorem St.appendKeep {w0 W : World} {L : List Asn} {g n c d : Nat} {ad : Addr} {os : List S31} {y : S31} {ops : Array Oper} {rest : List Oper} {o : Oper} {a : Act} {Q : Exit → Act → World → Prop}
    (h : St w0 W (EvA (.slice (some ⟨g, 0, none⟩) n c) os :: L)) (hos : os.length = n) (hnews : ∀ j u, (enc31 y)[j]? = some u → W.cell? (ad.add j) = some u) (hgd : o.guard = none) (s x : Operand) (ho : o.op = .call { callee := .builtin .append, args := #[s, x], argTypes := #[22, 22] })
    (hs : a.eval s = .slice (some ⟨g, 0, none⟩) n c) (hx : a.eval x = .slice (some ad) 1 d) (hl : n ≤ 100000)
    (k : ∀ A' c' w1, St w0 w1 (EvA (.slice (some ⟨g, 0, none⟩) n c) os :: L) → wpList Try.prog ops Q rest (a.put o.dst (.slice A' (n + 1) c')) w1) :
    wpList Try.prog ops Q (o :: rest) a W := by
  subst hos
  obtain ⟨F, hA, _, hn2⟩ := h.one
  obtain ⟨i0, hi, hz0, hz1, hz2⟩ := info_parts info31
  have hone : ∀ u ∈ enc31 y, u.oneCell' = true := by intro u hu; simp [enc31] at hu; rcases hu with rfl | rfl | rfl | rfl | rfl | rfl <;> rfl
  rcases Nat.lt_or_ge c (os.length + 1) with hc | hc
  · refine wpList_append_grows W hgd s x 22 ho 31 i0 (.agg #[.int .i64 0, .int .i64 0, .int .i64 0, .int .i64 0, .int .i64 0, .int .u64 0]) 6 48 Try.underlying22 hi hz0 hz1 hz2 rfl (by decide) (some ⟨g, 0, none⟩) os.length c (os.flatMap enc31) hs (fun h => by cases h) (encs31_len os) (fun b hb j u hu => ?_) ad 1 d (enc31 y) hx rfl hnews hone hc (by simp only [maxLen]; omega) (by omega) ?_
    · cases hb
      exact World.ownsRow.cells hA.2.1 rfl _ _ hu
    · intro v' w' hr hg
      obtain ⟨g', cap', rfl, _, _⟩ := World.ownsRow.form hr (by omega)
      exact k _ _ w' (h.then ⟨hg.os, hg.tape, hg.output, hg.size, fun k hk => hg.block k hk (fun e => by cases e)⟩)
  · refine wpList_append_fits W hgd s x 22 ho 0 31 i0 6 Try.underlying22 hi hz1 g os.length c (os.flatMap enc31) hs hA.2.1 ad 1 d (enc31 y) hx rfl hnews hone hc ?_
    intro w' hr hg
    have hE : EvR w' (.slice (some ⟨g, 0, none⟩) os.length c) os := by
      have := own_take (m := os.length) hr (by omega)
      rw [List.take_append_of_le_length (by rw [encs31_len]; exact Nat.le_refl _), List.take_of_length_le (by rw [encs31_len]; exact Nat.le_refl _)] at this
      exact this
    refine k _ _ w' (hn2 w' F [_] ⟨hg.os, hg.tape, hg.output, hg.size, fun k hk hn => hg.block k hk (fun e => hn (by cases e; exact hA.2.2 _ rfl)), fun _ h => .inl h⟩ ⟨F, ⟨fun k hk => Nat.lt_of_lt_of_le (hA.1 k hk) hg.size, hE, hA.2.2⟩, fun _ h => h, trivial⟩)
end Go.Proofs.Ytopmikcljekdiaa.Ag
