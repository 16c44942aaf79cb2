/- Rows of entries in memory: what is written into them. -/
import Derived.Test.YtopmikcljekdiaaPAx0
import Derived.Test.YtopmikcljekdiaaSL
namespace Go.Proofs.Ytopmikcljekdiaa.Ag
open Go.RowKit Go.Proofs.YtopmikcljekdiaaW.PrintWords Go.Proofs.Ytopmikcljekdiaa.PA Go.Proofs.Ytopmikcljekdiaa.SL

def enc (x : S81) : List Value := [.int .i64 x.f0.f0, .int .i64 x.f0.f1, .int .i64 x.f0.f2, .int .i64 x.f0.f3, .int .i64 x.f0.f4, .int .u64 x.f0.f5, .int .i64 x.f1]
theorem enc_len (x : S81) : (enc x).length = 7 := rfl
theorem encs_len (es : List S81) : (es.flatMap enc).length = es.length * 7 := by
  induction es with
  | nil => rfl
  | cons a es ih => simp [ih, enc_len]; omega
theorem reps_enc {w : World} {base : Nat} {ok : Nat → Prop} : ∀ (es : List S81) (cs : List Value), Reps (k81.M w base ok) 7 es cs → cs = es.flatMap enc
  | [], cs, h => by
    have := h.1
    exact List.eq_nil_of_length_eq_zero (by simpa using this)
  | x :: es, cs, h => by
    have h0 := k81_openM (h.2 0 x rfl)
    have hl := h.1
    have ih := reps_enc (w := w) (base := base) (ok := ok) es (cs.drop 7) ⟨by simp at hl ⊢; omega, fun j p hp => by
      have := h.2 (j + 1) p (by simpa using hp)
      rw [List.drop_drop, show 7 + j * 7 = (j + 1) * 7 from by omega]
      exact this⟩
    have : cs = cs.take 7 ++ cs.drop 7 := (List.take_append_drop 7 cs).symm
    rw [this, ih]
    simp only [Nat.zero_mul, List.drop_zero] at h0
    rw [h0]
    rfl
theorem enc_reps {w : World} {base : Nat} {ok : Nat → Prop} : ∀ (es : List S81), Reps (k81.M w base ok) 7 es (es.flatMap enc)
  | [] => Reps.none _ _
  | x :: es => by
    refine ⟨encs_len _, fun j p hp => ?_⟩
    match j, hp with
    | 0, hp =>
      obtain rfl : x = p := by simpa using hp
      have : ((((x :: es).flatMap enc).drop (0 * 7)).take 7) = enc x := by simp [enc]
      rw [this]
      exact k81_mkM _ _ _ _
    | j + 1, hp =>
      have h := (enc_reps (w := w) (base := base) (ok := ok) es).2 j p (by simpa using hp)
      have : ((((x :: es).flatMap enc).drop ((j + 1) * 7)).take 7) = ((es.flatMap enc).drop (j * 7)).take 7 := by
        rw [show (j + 1) * 7 = 7 + j * 7 from by omega, ← List.drop_drop]
        rfl
      rw [this]
      exact h
theorem R_iff {w : World} {base : Nat} {ok : Nat → Prop} {v : Value} {es : List S81} :
    Kd.R k81 81 w base ok v es ↔ (∀ k, v.ownBlock = some k → ok k) ∧ w.ownsRow base 81 7 v es.length (es.flatMap enc) := by
  constructor
  · rintro ⟨h1, inner, h2, h3⟩
    obtain rfl := reps_enc es inner h3
    exact ⟨h1, h2⟩
  · rintro ⟨h1, h2⟩
    exact ⟨h1, _, h2, enc_reps es⟩

/-- An element's seven cells, written one by one. -/
def putAt (w : World) (g i : Nat) (x : S81) : World :=
  (((((((w.setCell ⟨g, i * 7, none⟩ (.int .i64 x.f0.f0)).setCell ⟨g, i * 7 + 1, none⟩ (.int .i64 x.f0.f1)).setCell ⟨g, i * 7 + 2, none⟩ (.int .i64 x.f0.f2)).setCell ⟨g, i * 7 + 3, none⟩ (.int .i64 x.f0.f3)).setCell ⟨g, i * 7 + 4, none⟩ (.int .i64 x.f0.f4)).setCell ⟨g, i * 7 + 5, none⟩ (.int .u64 x.f0.f5)).setCell ⟨g, i * 7 + 6, none⟩ (.int .i64 x.f1))
theorem sets_enc (x : S81) : ∀ (es : List S81) (i : Nat), i < es.length →
    (((((((es.flatMap enc).set (i * 7) (.int .i64 x.f0.f0)).set (i * 7 + 1) (.int .i64 x.f0.f1)).set (i * 7 + 2) (.int .i64 x.f0.f2)).set (i * 7 + 3) (.int .i64 x.f0.f3)).set (i * 7 + 4) (.int .i64 x.f0.f4)).set (i * 7 + 5) (.int .u64 x.f0.f5)).set (i * 7 + 6) (.int .i64 x.f1) = (es.set i x).flatMap enc
  | [], i, h => by simp at h
  | a :: es, 0, _ => by simp [enc]
  | a :: es, i + 1, h => by
    have ih := sets_enc x es i (by simpa using h)
    have hk : ∀ (l : List Value) (j : Nat) (v : Value), (enc a ++ l).set ((i + 1) * 7 + j) v = enc a ++ l.set (i * 7 + j) v := by
      intro l j v
      rw [List.set_append_right _ _ (by rw [enc_len]; omega), enc_len, show (i + 1) * 7 + j - 7 = i * 7 + j from by omega]
    have hk0 := fun (l : List Value) (v : Value) => hk l 0 v
    simp only [Nat.add_zero] at hk0
    simp only [List.flatMap_cons, List.set_cons_succ]
    rw [hk0, hk, hk, hk, hk, hk, hk, ih]
theorem own_set {w : World} {base g n cap j : Nat} {e : TypeId} {size : Nat} {xs : List Value} (h : w.ownsRow base e size (.slice (some ⟨g, 0, none⟩) n cap) n xs) (u : Value) :
    (w.setCell ⟨g, j, none⟩ u).ownsRow base e size (.slice (some ⟨g, 0, none⟩) n cap) n (xs.set j u) := (h.stored j u).1
theorem putAt_own {w : World} {base g n cap i : Nat} {es : List S81} (h : w.ownsRow base 81 7 (.slice (some ⟨g, 0, none⟩) n cap) n (es.flatMap enc)) (x : S81) (hi : i < es.length) :
    (putAt w g i x).ownsRow base 81 7 (.slice (some ⟨g, 0, none⟩) n cap) n ((es.set i x).flatMap enc) := by
  rw [← sets_enc x es i hi]
  exact own_set (own_set (own_set (own_set (own_set (own_set (own_set h _) _) _) _) _) _) _
theorem heap_set_far (w : World) (g j : Nat) (u : Value) (k : Nat) (h : k ≠ g) : (w.setCell ⟨g, j, none⟩ u).heap[k]? = w.heap[k]? := Below.heap_setCell w ⟨g, j, none⟩ u k h
theorem putAt_far (w : World) (g i : Nat) (x : S81) (k : Nat) (h : k ≠ g) : (putAt w g i x).heap[k]? = w.heap[k]? := by
  unfold putAt
  rw [heap_set_far _ _ _ _ _ h, heap_set_far _ _ _ _ _ h, heap_set_far _ _ _ _ _ h, heap_set_far _ _ _ _ _ h, heap_set_far _ _ _ _ _ h, heap_set_far _ _ _ _ _ h, heap_set_far _ _ _ _ _ h]
theorem Chg.set (w : World) (g j : Nat) (u : Value) {F : Nat → Prop} (h : F g) : Chg w (w.setCell ⟨g, j, none⟩ u) F F :=
  ⟨rfl, rfl, rfl, by simp [World.setCell], fun k _ hn => heap_set_far w g j u k (fun e => hn (e ▸ h)), fun _ h => .inl h⟩
theorem Chg.drewN (w : World) (m : Nat) (F : Nat → Prop) : Chg w (w.drewN m) F F := Chg.of_below (pw_below_drewN (Below.refl _ _) m) F
theorem Chg.drew (w : World) (F : Nat → Prop) : Chg w w.drew F F := Chg.of_below (below_drew (Below.refl _ _)) F
theorem Chg.alloc (w : World) (o : Obj) (F : Nat → Prop) : Chg w (w.alloc o) F F := Chg.of_below (below_alloc (Below.refl _ _) o) F
theorem Chg.putAt (w : World) (g i : Nat) (x : S81) {F : Nat → Prop} (h : F g) : Chg w (putAt w g i x) F F :=
  Chg.trans (Chg.trans (Chg.trans (Chg.trans (Chg.trans (Chg.trans (Chg.set w g _ _ h) (Chg.set _ g _ _ h)) (Chg.set _ g _ _ h)) (Chg.set _ g _ _ h)) (Chg.set _ g _ _ h)) (Chg.set _ g _ _ h)) (Chg.set _ g _ _ h)
/-- The seven cells of an element, as they are read. -/
theorem cells_at {w : World} {base g n cap : Nat} {es : List S81} (h : w.ownsRow base 81 7 (.slice (some ⟨g, 0, none⟩) n cap) n (es.flatMap enc)) (i : Nat) (hi : i < es.length) (j : Nat) (u : Value) (hj : (enc es[i])[j]? = some u) :
    w.cell? ⟨g, i * 7 + j, none⟩ = some u ∧ w.frozen? ⟨g, i * 7 + j, none⟩ = false := by
  have hjl : j < 7 := by
    rcases Nat.lt_or_ge j 7 with h | h
    · exact h
    · rw [List.getElem?_eq_none (by rw [enc_len]; exact h)] at hj; cases hj
  have hget : (es.flatMap enc)[i * 7 + j]? = some u := by
    have h3 := (enc_reps (w := w) (base := 0) (ok := fun _ => True) es).2 i es[i] (List.getElem?_eq_getElem hi)
    have h4 := k81_openM h3
    have h5 : (((es.flatMap enc).drop (i * 7)).take 7)[j]? = some u := by rw [h4]; exact hj
    rw [List.getElem?_take_of_lt hjl, List.getElem?_drop] at h5
    exact h5
  constructor
  · have := h.cells (g := g) rfl _ _ hget
    rwa [add_plain] at this
  · rcases h.2 with ⟨h', _⟩ | ⟨g', cap', cur, h', _, hh, _⟩
    · cases h'
    · have : g = g' := by injection h' with h'; injection h' with h'; injection h' with h'
      subst this
      simp [World.frozen?, hh]
end Go.Proofs.Ytopmikcljekdiaa.Ag
