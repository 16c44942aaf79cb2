/- The agenda's functions beside all else that is held. -/
import Derived.Test.YtopmikcljekdiaaAgLive
namespace Go.Proofs.Ytopmikcljekdiaa.Ag
open Go.RowKit Go.Proofs.YtopmikcljekdiaaW.PrintWords Go.Proofs.Ytopmikcljekdiaa.PA Go.Proofs.Ytopmikcljekdiaa.SL
set_option linter.unusedVariables false
/-- A row of events. -/
def EvA (v : Value) (os : List S31) : Asn := ⟨fun w F => (∀ k, F k → k < w.heap.size) ∧ EvR w v os ∧ ∀ k, own1 v k → F k, fun h k hk => h.1 k hk, fun {w w' F} h hm => by
  obtain ⟨h1, h2, h3⟩ := h
  refine ⟨fun k hk => ?_, own_move h2 (fun k hk => hm k (h3 k hk)), h3⟩
  have := h1 k hk
  rcases Nat.lt_or_ge k w'.heap.size with h | h
  · exact h
  · have h7 := hm k hk
    rw [Array.getElem?_eq_none h, Array.getElem?_eq_getElem this] at h7
    cases h7⟩
/-- What a call may be asked of: the world that it began in, what was made since, and what is held. -/
structure St (w0 w : World) (L : List Asn) : Prop where
  below : Below w0.heap.size w0 w
  held : Held w0.heap.size w L
theorem St.nil (w0 : World) : St w0 w0 [] := ⟨Below.refl _ _, Held.nil (Nat.le_refl _)⟩
theorem St.then {w0 w w' : World} {L : List Asn} (h : St w0 w L) (hb : Below w.heap.size w w') : St w0 w' L :=
  ⟨h.below.trans ⟨hb.os, hb.tape, hb.output, hb.size, fun k hk => hb.block k (Nat.lt_of_lt_of_le hk h.below.size)⟩, h.held.below hb⟩
theorem St.perm {w0 w : World} {L L' : List Asn} (h : St w0 w L) (p : L.Perm L') : St w0 w L' := ⟨h.below, h.held.perm p⟩
theorem St.sw1 {w0 w : World} {A B : Asn} {L : List Asn} (h : St w0 w (A :: B :: L)) : St w0 w (B :: A :: L) := h.perm (List.Perm.swap _ _ _)
theorem St.sw2 {w0 w : World} {A B C : Asn} {L : List Asn} (h : St w0 w (A :: B :: C :: L)) : St w0 w (C :: A :: B :: L) := h.perm (((List.Perm.swap _ _ _).cons _).trans (List.Perm.swap _ _ _))
theorem St.sw3 {w0 w : World} {A B C D : Asn} {L : List Asn} (h : St w0 w (A :: B :: C :: D :: L)) : St w0 w (D :: A :: B :: C :: L) := h.perm ((((List.Perm.swap _ _ _).cons _).trans (List.Perm.swap _ _ _)).cons _ |>.trans (List.Perm.swap _ _ _))
theorem St.sw4 {w0 w : World} {A B C D E : Asn} {L : List Asn} (h : St w0 w (A :: B :: C :: D :: E :: L)) : St w0 w (E :: A :: B :: C :: D :: L) := h.perm (((((List.Perm.swap _ _ _).cons _).trans (List.Perm.swap _ _ _)).cons _ |>.trans (List.Perm.swap _ _ _)).cons _ |>.trans (List.Perm.swap _ _ _))
theorem St.drop {w0 w : World} {A : Asn} {L : List Asn} (h : St w0 w (A :: L)) : St w0 w L := ⟨h.below, h.held.drop⟩
/-- The first one of those that are held, the blocks that it speaks of, and what is to be shown of a change. -/
theorem St.one {w0 w : World} {A : Asn} {L : List Asn} (h : St w0 w (A :: L)) :
    ∃ F, A.P w F ∧ (∀ W F', Chg w W F F' → Below w0.heap.size w0 W) ∧ ∀ w' F' As', Chg w w' F F' → Stars w' As' F' → St w0 w' (As' ++ L) := by
  obtain ⟨F, ⟨F1, hA, hF1, _⟩, hn⟩ := Held.step (As := [A]) h.held
  refine ⟨F1, hA, fun W F' hc => ?_, fun w' F' As' hc hs => ?_⟩
  · have hc2 : Chg w W F (fun _ => False) := Chg.weaken hc hF1 (fun _ h => h.elim)
    exact h.below.trans (hn W _ [] hc2 trivial).2
  · have hc2 : Chg w w' F F' := Chg.weaken hc hF1 (fun k hk => (hc.into k hk).elim (fun h => .inl (hF1 k h)) .inr)
    have h2 := hn w' F' As' hc2 hs
    exact ⟨h.below.trans h2.2, h2.1⟩
/-- What is made new. -/
theorem St.add {w0 w w' : World} {A : Asn} {L : List Asn} {F' : Nat → Prop} (h : St w0 w L) (hc : Chg w w' NoF F') (hA : A.P w' F') : St w0 w' (A :: L) := by
  obtain ⟨F, _, hn⟩ := Held.step (As := []) h.held
  have hc2 : Chg w w' F F' := Chg.weaken hc (fun _ h => h.elim) (fun k hk => (hc.into k hk).elim (fun h => h.elim) .inr)
  have h2 := hn w' F' [A] hc2 ⟨F', hA, fun _ h => h, trivial⟩
  exact ⟨h.below.trans h2.2, h2.1⟩
theorem below_C {w0 W : World} {A : Option Addr} {n : Nat} {xs : List S31} (h : Kd.C k31 w0 A n xs) (hb : Below w0.heap.size w0 W) : Kd.C k31 W A n xs := Kd.C_below h hb
theorem St.put {w0 w : World} {L : List Asn} {g n c : Nat} {es : List S81} {put : Int} {A : Option Addr} {xs : List S31} (h : St w0 w (AgA g es put :: L)) (hr : Kd.C k31 w0 A n xs) (hx : xs.length = n) (hn : es.length + n ≤ 1024) (hp : 0 ≤ put ∧ put ≤ 1000000) :
    Calls Try.prog 20 #[.pointer (some ⟨g, 0, none⟩), .slice A n c] w fun e w' => e = .returned (.int .i64 0) ∧ St w0 w' (AgA g (pushN (es, put) xs).1 (pushN (es, put) xs).2 :: L) := by
  obtain ⟨F, hA, hb, hn2⟩ := h.one
  refine (put_calls hA hx hn hp (fun W F' hc => below_C hr (hb W F' hc))).mono ?_
  rintro e w' ⟨rfl, F', hc, hA'⟩
  exact ⟨rfl, hn2 w' F' [_] hc ⟨F', hA', fun _ h => h, trivial⟩⟩
theorem St.new {w0 w : World} {L : List Asn} {n c : Nat} {A : Option Addr} {xs : List S31} (h : St w0 w L) (hr : Kd.C k31 w0 A n xs) (hx : xs.length = n) (hn : n ≤ 1024) :
    Calls Try.prog 17 #[.slice A n c] w fun e w' => ∃ g, e = .returned (.tuple #[.pointer (some ⟨g, 0, none⟩), .int .i64 0]) ∧ St w0 w' (AgA g (pushN ([], 0) xs).1 (pushN ([], 0) xs).2 :: L) := by
  refine (new_calls hx hn (fun W F' hc => chg_C (below_C hr h.below) hc)).mono ?_
  rintro e w' ⟨g, F', rfl, hc, hA⟩
  exact ⟨g, rfl, h.add hc hA⟩
theorem take_st {w0 w w' : World} {L : List Asn} {g : Nat} {es : List S81} {put t : Int} {F : Nat → Prop} {e : Ending} (hn2 : ∀ w' F' As', Chg w w' F F' → Stars w' As' F' → St w0 w' (As' ++ L)) (h : TakePost w F g put t es e w') :
    ∃ A c, e = .returned (.slice A (dueE t es.length es).1.length c) ∧ (dueE t es.length es).1.length ≤ c ∧ St w0 w' (EvA (.slice A (dueE t es.length es).1.length c) (dueE t es.length es).1 :: AgA g (dueE t es.length es).2 put :: L) := by
  obtain ⟨v, F', rfl, h1, h2, h3, h4, h5⟩ := h
  obtain ⟨A, c, rfl, hc, _⟩ := h1.form
  refine ⟨A, c, rfl, hc, hn2 w' (fun k => own1 (.slice A (dueE t es.length es).1.length c) k ∨ F' k) [_, _] ⟨h5.os, h5.tape, h5.output, h5.size, h5.keep, fun k hk => ?_⟩ ⟨own1 (.slice A (dueE t es.length es).1.length c), ⟨fun k hk => own1_lt h1 k hk, h1, fun _ h => h⟩, fun k hk => .inl hk, F', h2, fun k hk => ⟨.inr hk, fun h => h3 k h hk⟩, trivial⟩⟩
  exact hk.elim (fun h => .inr (h4 k h)) (fun h => h5.into k h)
theorem St.due {w0 w : World} {L : List Asn} {g : Nat} {es : List S81} {put t : Int} (h : St w0 w (AgA g es put :: L)) (hn : es.length ≤ 1024) :
    Calls Try.prog 23 #[.pointer (some ⟨g, 0, none⟩), .int .i64 t] w fun e w' => ∃ A c, e = .returned (.slice A (dueE t es.length es).1.length c) ∧ (dueE t es.length es).1.length ≤ c ∧ St w0 w' (EvA (.slice A (dueE t es.length es).1.length c) (dueE t es.length es).1 :: AgA g (dueE t es.length es).2 put :: L) := by
  obtain ⟨F, hA, _, hn2⟩ := h.one
  exact (due_calls hA hn).mono fun e w' hp => take_st hn2 hp
theorem St.rest {w0 w : World} {L : List Asn} {g : Nat} {es : List S81} {put : Int} (h : St w0 w (AgA g es put :: L)) (hn : es.length ≤ 1024) :
    Calls Try.prog 18 #[.pointer (some ⟨g, 0, none⟩)] w fun e w' => ∃ A c, e = .returned (.slice A (dueE 9223372036854775807 es.length es).1.length c) ∧ (dueE 9223372036854775807 es.length es).1.length ≤ c ∧ St w0 w' (EvA (.slice A (dueE 9223372036854775807 es.length es).1.length c) (dueE 9223372036854775807 es.length es).1 :: AgA g (dueE 9223372036854775807 es.length es).2 put :: L) := by
  obtain ⟨F, hA, _, hn2⟩ := h.one
  exact (rest_calls hA hn).mono fun e w' hp => take_st hn2 hp
theorem St.left {w0 w : World} {L : List Asn} {g : Nat} {es : List S81} {put : Int} (h : St w0 w (AgA g es put :: L)) :
    Calls Try.prog 21 #[.pointer (some ⟨g, 0, none⟩)] w fun e w' => e = .returned (.int .i64 es.length) ∧ w' = w := by
  obtain ⟨F, hA, _, _⟩ := h.one
  exact left_calls hA
theorem St.next0 {w0 w : World} {L : List Asn} {g : Nat} {put : Int} (h : St w0 w (AgA g [] put :: L)) :
    Calls Try.prog 25 #[.pointer (some ⟨g, 0, none⟩)] w fun e w' => e = .returned (.tuple #[.int .i64 0, .int .i64 9]) ∧ w' = w := by
  obtain ⟨F, hA, _, _⟩ := h.one
  exact next_none hA
theorem St.next1 {w0 w : World} {L : List Asn} {g : Nat} {x : S81} {rest : List S81} {put : Int} (h : St w0 w (AgA g (x :: rest) put :: L)) (hn : (x :: rest).length ≤ 1024) :
    Calls Try.prog 25 #[.pointer (some ⟨g, 0, none⟩)] w fun e w' => e = .returned (.tuple #[.int .i64 x.f0.f3, .int .i64 0]) ∧ w' = w := by
  obtain ⟨F, hA, _, _⟩ := h.one
  exact next_some hA hn
theorem St.read {w0 w : World} {L : List Asn} {A : Option Addr} {n c : Nat} {os : List S31} (h : St w0 w (EvA (.slice A n c) os :: L)) (hn : os.length = n) : Kd.C k31 w A n os := by
  obtain ⟨F, hA, _, _⟩ := h.one
  exact EvR.C hA.2.1 hn
theorem St.drawn0 {w0 w w' : World} {L : List Asn} (h : St w0 w L) (hd : Drawn0 w w') : St w0 w' L := by
  obtain ⟨nd, rfl⟩ := hd
  exact h.then (pw_below_drewN (Below.refl _ _) nd)
/-- Two rows that read the same are told to be the same. -/
theorem St.same {w0 w : World} {L L' : List Asn} {A B : Option Addr} {n m c d : Nat} {os : List S31} (h : St w0 w (EvA (.slice A n c) os :: L)) (h2 : St w0 w (EvA (.slice B m d) os :: L')) (hn : os.length = n) (hm : os.length = m) (hc : n ≤ c) (hd : m ≤ d) (hl : n ≤ 100000) :
    Calls Try.prog 19 #[.slice A n c, .slice B m d] w fun e w' => e = .returned (.bool true) ∧ St w0 w' (EvA (.slice A n c) os :: L) := by
  have r1 := h.read hn
  have r2 := h2.read hm
  subst hn hm
  refine (brackenref10_Same.calls _ A c os B d os true w r1 hc r2 hd (same_refl os hl)).mono ?_
  rintro e w' ⟨rfl, hd⟩
  exact ⟨rfl, h.drawn0 hd⟩
theorem St.live {w0 w : World} {L : List Asn} (h : St w0 w L) : Calls Try.prog 16 #[] w fun e w' => e = .returned (.bool true) ∧ St w0 w' L := by
  refine live_calls.mono ?_
  rintro e w' ⟨rfl, hc⟩
  exact ⟨rfl, h.then (hc.below (base := w.heap.size) (fun _ h => h.elim) (Nat.le_refl _))⟩
end Go.Proofs.Ytopmikcljekdiaa.Ag
