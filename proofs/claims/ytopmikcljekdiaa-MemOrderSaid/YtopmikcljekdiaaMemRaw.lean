/- A memory that New has not made, and none at all; two memories alike. -/
import Derived.Test.YtopmikcljekdiaaMemK
namespace Go.Proofs.Ytopmikcljekdiaa.Ag
open Go.RowKit Go.Proofs.YtopmikcljekdiaaW.PrintWords Go.Proofs.YtopmikcljekdiaaW.PrintLast Go.Proofs.YtopmikcljekdiaaW.PrintMore Go.Proofs.Ytopmikcljekdiaa.PA Go.Proofs.Ytopmikcljekdiaa.SL
set_option linter.unusedVariables false
set_option maxRecDepth 100000
set_option maxHeartbeats 8000000
theorem stkL_none (D : List S31) : stkL [] D = [] := List.eq_nil_of_length_eq_zero (by rw [stkL_len]; rfl)
/-- One that New has not made: as it is at first, or behind a window's end. -/
def RawA (b : Nat) : Asn :=
  Asn.any (fun o : Option (List S31) => ∀ evs, o = some evs → OkM ⟨[], evs, 0, 0⟩ 0) (fun o => match o with | none => MmA b [] none 0 0 | some evs => MemA b ⟨[], evs, 0, 0⟩)
theorem St.raw_open {w0 w : World} {L : List Asn} {b : Nat} (h : St w0 w (RawA b :: L)) : St w0 w (MmA b [] none 0 0 :: L) ∨ ∃ evs, OkM ⟨[], evs, 0, 0⟩ 0 ∧ St w0 w (MemA b ⟨[], evs, 0, 0⟩ :: L) := by
  obtain ⟨o, ho, hs⟩ := h.any_open
  rcases o with _ | evs
  · exact .inl hs
  · exact .inr ⟨evs, ho evs rfl, hs⟩
theorem St.raw_at_first {w0 w : World} {L : List Asn} {b : Nat} (h : St w0 w (MmA b [] none 0 0 :: L)) : St w0 w (RawA b :: L) := St.any_close (x := none) (fun evs e => by cases e) h
theorem St.raw_later {w0 w : World} {L : List Asn} {b : Nat} {evs : List S31} (ho : OkM ⟨[], evs, 0, 0⟩ 0) (h : St w0 w (MemA b ⟨[], evs, 0, 0⟩ :: L)) : St w0 w (RawA b :: L) := St.any_close (x := some evs) (fun e he => by cases he; exact ho) h
def rawO : Obj := .cells #[.slice none 0 0, .pointer none, .int .i64 0, .int .i64 0] 74
theorem St.raw_new {w0 w : World} {L : List Asn} (h : St w0 w L) : St w0 (w.alloc rawO) (RawA w.heap.size :: L) := by
  refine St.raw_at_first (h.add (F' := fun k => k = w.heap.size) (Chg.weaken (F := NoF) (Chg.alloc w rawO NoF) (fun _ h => h) (fun k hk => .inr (by omega))) ⟨fun k hk => by simp [hk], rfl, .slice none 0 0, heap_alloc_new w rawO, by simp [own1, Value.ownBlock], own_nil _ _ _ _, fun k hk => by simp [own1, Value.ownBlock] at hk⟩)
theorem St.rticks {w0 w : World} {L : List Asn} {b : Nat} (h : St w0 w (RawA b :: L)) : Calls Try.prog 44 #[.pointer (some ⟨b, 0, none⟩)] w fun e w' => e = .returned (.int .i64 0) ∧ w' = w := by
  rcases h.raw_open with h | ⟨evs, ho, h⟩
  · exact h.ticks0
  · exact h.ticks
theorem St.rall {w0 w : World} {L : List Asn} {b : Nat} (h : St w0 w (RawA b :: L)) : Calls Try.prog 35 #[.pointer (some ⟨b, 0, none⟩)] w fun e w' => e = .returned (.int .i64 0) ∧ St w0 w' (RawA b :: L) := by
  rcases h.raw_open with h | ⟨evs, ho, h⟩
  · refine (h.all0 (by omega) (by omega)).mono ?_
    rintro e w' ⟨rfl, h2⟩
    exact ⟨rfl, h2.raw_at_first⟩
  · refine (h.all (k := 0) ho (by omega)).mono ?_
    rintro e w' ⟨rfl, h2⟩
    exact ⟨rfl, St.raw_later ho h2⟩
theorem St.rwords {w0 w : World} {L : List Asn} {b : Nat} (h : St w0 w (RawA b :: L)) : Calls Try.prog 39 #[.pointer (some ⟨b, 0, none⟩)] w fun e w' => ∃ A c, e = .returned (.slice A 0 c) ∧ St w0 w' (RawA b :: L) := by
  rcases h.raw_open with h | ⟨evs, ho, h⟩
  · refine (h.words0 (by simp)).mono ?_
    rintro e w' ⟨A, c, rfl, h2⟩
    exact ⟨A, c, rfl, h2.drop.raw_at_first⟩
  · refine (h.words ho).mono ?_
    rintro e w' ⟨A, c, rfl, h2⟩
    exact ⟨A, c, rfl, St.raw_later ho h2.drop⟩
theorem St.raw_next {w0 w : World} {L : List Asn} {b : Nat} {A : Option Addr} {n c : Nat} {xs : List S31} (h : St w0 w (MmA b [] none 0 0 :: L)) (hr : Kd.C k31 w A n xs) (hx : xs.length = n) (hn : n ≤ 1024) :
    Calls Try.prog 33 #[.pointer (some ⟨b, 0, none⟩), .slice A n c] w fun e w' => e = .returned (.int .i64 0) ∧ St w0 w' (MemA b ⟨[], xs, 0, 0⟩ :: L) := by
  obtain ⟨l', r1, r2⟩ := rank_new xs
  obtain ⟨P, pv', hP⟩ : ∃ P pv', pushN ([], 0) xs = (P, pv') := ⟨_, _, rfl⟩
  rw [hP] at r1
  have HBEG := Aside0.mk (h.begin (c := c) hr hx hn)
  rw [hP] at HBEG
  obtain ⟨A2, c2, y0, y1, y2, y3, yf⟩ := h.mcells
  have R1 := Aside0.mk r1
  have R2 := Aside0.mk r2
  clear h hr hx hn r1 r2 hP yf y0 y2 y3
  go_enter Try.func33, Try.ntmps33
  go_wp2_with (first
    | (go_at_call 54; refine (St.strike18 (p := none) (D := []) (by simp) (by simp) (told18_nil S1.out)).mono ?_; rintro e w3 ⟨rfl, A3, c3, h3⟩; have S2 := Aside0.mk h3.sw1.drop; clear h3; have z1 : w3.cell? ⟨b, 2, none⟩ = some (.int .i64 0) := (by obtain ⟨_, _, _, _, z, _⟩ := S2.out.mcells; exact z); have z2 : w3.cell? ⟨b, 3, none⟩ = some (.int .i64 0) := (by obtain ⟨_, _, _, _, _, z, _⟩ := S2.out.mcells; exact z); have z3 : w3.frozen? ⟨b, 2, none⟩ = false := (by obtain ⟨_, _, _, _, _, _, z⟩ := S2.out.mcells; exact z 2); have z4 : w3.frozen? ⟨b, 3, none⟩ = false := (by obtain ⟨_, _, _, _, _, _, z⟩ := S2.out.mcells; exact z 3))
    | (go_at_call 52; refine HBEG.out.mono ?_; rintro e w2 ⟨g', rfl, h⟩; have S1 := Aside0.mk h; clear h y1))
  go_region
  all_goals
    have S3 : Aside0 (St w0 (w3.setCell ⟨b, 3, none⟩ (.int .i64 0)) (MmA b [] (some ⟨g', 0, none⟩) 0 0 :: AgA g' P pv' :: L)) := ⟨S2.out.setAt (fun v => rfl)⟩
    have z5 : (w3.setCell ⟨b, 3, none⟩ (.int .i64 0)).cell? ⟨b, 2, none⟩ = some (.int .i64 0) := (by obtain ⟨_, _, _, _, z, _⟩ := S3.out.mcells; exact z)
    have z6 : (w3.setCell ⟨b, 3, none⟩ (.int .i64 0)).frozen? ⟨b, 2, none⟩ = false := (by obtain ⟨_, _, _, _, _, _, z⟩ := S3.out.mcells; exact z 2)
    go_wp2
    go_ret
    have h4 : St w0 ((w3.setCell ⟨b, 3, none⟩ (.int .i64 0)).setCell ⟨b, 2, none⟩ (.int .i64 0)) (MmA b [] (some ⟨g', 0, none⟩) 0 0 :: AgA g' P pv' :: L) := S3.out.setAt (j := 2) (u := .int .i64 0) (tk' := 0) (fun v => rfl)
    have h5 := St.mem_close (g := g') (m := ⟨[], xs, 0, 0⟩) R1.out R2.out h4
    refine ⟨rfl, ?_⟩
    first | exact h5 | exact h5.then (below_drew (Below.refl _ _)) | exact h5.then (pw_below_drewN (Below.refl _ _) _)
theorem St.raw_nextFull {w0 w : World} {L : List Asn} {b : Nat} {A : Option Addr} {n c : Nat} (h : St w0 w (MmA b [] none 0 0 :: L)) (hn : 1024 < n) :
    Calls Try.prog 33 #[.pointer (some ⟨b, 0, none⟩), .slice A n c] w fun e w' => e = .returned (.int .i64 1) ∧ w' = w := by
  obtain ⟨A2, c2, y0, y1, y2, y3, yf⟩ := h.mcells
  have HB := Aside0.mk (St.beginFull (b := b) (A := A) (c := c) h hn)
  clear h hn yf y0 y2 y3
  go_enter Try.func33, Try.ntmps33
  go_wp2_with (go_at_call 52; refine HB.out.mono ?_; rintro e w2 ⟨rfl, hw⟩; obtain rfl := hw.symm)
  go_ret
  exact ⟨rfl, rfl⟩
theorem St.raw_load {w0 w : World} {L : List Asn} {b : Nat} {a : Int} (h : St w0 w (MmA b [] none 0 0 :: L)) :
    Calls Try.prog 34 #[.pointer (some ⟨b, 0, none⟩), .int .i64 a] w fun e w' => e = .returned (.tuple #[.int .u64 0, .int .i64 1]) ∧ St w0 w' (MmA b [] none 0 0 :: L) := by
  have HA := Aside0.mk (h.accessOut (a := a) (by simp) (by simp))
  clear h
  go_enter Try.func34, Try.ntmps34
  go_wp2_with (go_at_call 53; refine HA.out.mono ?_; rintro e w1 ⟨rfl, h⟩; have S1 := Aside0.mk h; clear h)
  go_ret2
  exact ⟨rfl, S1.out⟩
theorem St.raw_store {w0 w : World} {L : List Asn} {b : Nat} {a v : Int} (h : St w0 w (MmA b [] none 0 0 :: L)) :
    Calls Try.prog 32 #[.pointer (some ⟨b, 0, none⟩), .int .i64 a, .int .u64 v] w fun e w' => e = .returned (.int .i64 1) ∧ St w0 w' (MmA b [] none 0 0 :: L) := by
  have HA := Aside0.mk (h.accessOut (a := a) (by simp) (by simp))
  clear h
  go_enter Try.func32, Try.ntmps32
  go_wp2_with (go_at_call 53; refine HA.out.mono ?_; rintro e w1 ⟨rfl, h⟩; have S1 := Aside0.mk h; clear h)
  go_ret
  exact ⟨rfl, S1.out⟩
theorem load_nil {w : World} {a : Int} : Calls Try.prog 34 #[.pointer none, .int .i64 a] w fun e w' => e = .returned (.tuple #[.int .u64 0, .int .i64 1]) ∧ Below w.heap.size w w' := by
  go_enter Try.func34, Try.ntmps34
  go_wp2_with (go_at_call 53; refine access_nil.mono ?_; rintro e w1 ⟨rfl, h⟩; have S1 := Aside0.mk h; clear h)
  go_ret2
  exact ⟨rfl, S1.out⟩
theorem store_nil {w : World} {a v : Int} : Calls Try.prog 32 #[.pointer none, .int .i64 a, .int .u64 v] w fun e w' => e = .returned (.int .i64 1) ∧ Below w.heap.size w w' := by
  go_enter Try.func32, Try.ntmps32
  go_wp2_with (go_at_call 53; refine access_nil.mono ?_; rintro e w1 ⟨rfl, h⟩; have S1 := Aside0.mk h; clear h)
  go_ret
  exact ⟨rfl, S1.out⟩
theorem next_none_ {w : World} {A : Option Addr} {n c : Nat} : Calls Try.prog 33 #[.pointer none, .slice A n c] w fun e w' => e = .returned (.int .i64 1) ∧ w' = w := by
  go_enter Try.func33, Try.ntmps33
  go_wp2
  go_ret
  exact ⟨rfl, rfl⟩
theorem donil2 {w : World} {kd a u : Int} {A : Option Addr} {n c : Nat} (h0 : 0 ≤ kd ∧ kd ≤ 255) (hkd : kd % 4 = 2) :
    Calls Try.prog 37 #[.pointer none, opV kd a u A n c] w fun e w' => e = .returned (.tuple #[.int .u64 0, .int .i64 1]) ∧ Below w.heap.size w w' := by
  have S1 : Aside0 (Below w.heap.size w (w.alloc (.cells #[.int .u8 kd, .int .i64 a, .int .u64 u, .slice A n c] 64))) := ⟨below_alloc (Below.refl _ _) _⟩
  have g0 := h0.1
  have g1 := h0.2
  have d1 : (kd % 4 == 2) = true := beq_iff_eq.2 hkd
  clear hkd
  clear h0
  unfold opV
  go_enter Try.func37, Try.ntmps37
  go_wp2_with (go_at_call 32; refine store_nil.mono ?_; rintro e w1 ⟨rfl, h⟩; have S2 : Aside0 (Below w.heap.size w w1) := ⟨below_then S1.out S1.out.size h⟩; clear h)
  go_ret2
  exact ⟨rfl, S2.out⟩
theorem donil3 {w : World} {kd a u : Int} {A : Option Addr} {n c : Nat} (h0 : 0 ≤ kd ∧ kd ≤ 255) (hkd : kd % 4 = 3) :
    Calls Try.prog 37 #[.pointer none, opV kd a u A n c] w fun e w' => e = .returned (.tuple #[.int .u64 0, .int .i64 1]) ∧ Below w.heap.size w w' := by
  have S1 : Aside0 (Below w.heap.size w (w.alloc (.cells #[.int .u8 kd, .int .i64 a, .int .u64 u, .slice A n c] 64))) := ⟨below_alloc (Below.refl _ _) _⟩
  have g0 := h0.1
  have g1 := h0.2
  have d1 : (kd % 4 == 2) = false := beq_eq_false_iff_ne.2 (by omega)
  have d2 : (kd % 4 == 3) = true := beq_iff_eq.2 hkd
  clear hkd
  clear h0
  unfold opV
  go_enter Try.func37, Try.ntmps37
  go_wp2_with (go_at_call 33; refine next_none_.mono ?_; rintro e w1 ⟨rfl, hw⟩; obtain rfl := hw.symm; have S2 := S1)
  go_ret2
  exact ⟨rfl, S2.out⟩
theorem donil0 {w : World} {kd a u : Int} {A : Option Addr} {n c : Nat} (h0 : 0 ≤ kd ∧ kd ≤ 255) (hkd : kd % 4 ≠ 2) (hkd2 : kd % 4 ≠ 3) :
    Calls Try.prog 37 #[.pointer none, opV kd a u A n c] w fun e w' => e = .returned (.tuple #[.int .u64 0, .int .i64 1]) ∧ Below w.heap.size w w' := by
  have S1 : Aside0 (Below w.heap.size w (w.alloc (.cells #[.int .u8 kd, .int .i64 a, .int .u64 u, .slice A n c] 64))) := ⟨below_alloc (Below.refl _ _) _⟩
  have g0 := h0.1
  have g1 := h0.2
  have d1 : (kd % 4 == 2) = false := beq_eq_false_iff_ne.2 hkd
  have d2 : (kd % 4 == 3) = false := beq_eq_false_iff_ne.2 hkd2
  clear hkd hkd2
  clear h0
  unfold opV
  go_enter Try.func37, Try.ntmps37
  go_wp2_with (go_at_call 34; refine load_nil.mono ?_; rintro e w1 ⟨rfl, h⟩; have S2 : Aside0 (Below w.heap.size w w1) := ⟨below_then S1.out S1.out.size h⟩; clear h)
  go_ret2
  exact ⟨rfl, S2.out⟩
theorem donil {w : World} {kd a u : Int} {A : Option Addr} {n c : Nat} (h0 : 0 ≤ kd ∧ kd ≤ 255) :
    Calls Try.prog 37 #[.pointer none, opV kd a u A n c] w fun e w' => e = .returned (.tuple #[.int .u64 0, .int .i64 1]) ∧ Below w.heap.size w w' := by
  by_cases h2 : kd % 4 = 2
  · exact donil2 h0 h2
  · by_cases h3 : kd % 4 = 3
    · exact donil3 h0 h3
    · exact donil0 h0 h2 h3
theorem St.doraw2 {w0 w : World} {L : List Asn} {b : Nat} {kd a u : Int} {A : Option Addr} {n c : Nat} {xs : List S31} (h : St w0 w (MmA b [] none 0 0 :: L)) (h0 : 0 ≤ kd ∧ kd ≤ 255) (hkd : kd % 4 = 2) :
    Calls Try.prog 37 #[.pointer (some ⟨b, 0, none⟩), opV kd a u A n c] w fun e w' => e = .returned (.tuple #[.int .u64 0, .int .i64 1]) ∧ St w0 w' (RawA b :: L) := by
  obtain ⟨B, hB⟩ : ∃ B : Obj, B = .cells #[.int .u8 kd, .int .i64 a, .int .u64 u, .slice A n c] 64 := ⟨_, rfl⟩
  have S1 : Aside0 (St w0 (w.alloc B) (MmA b [] none 0 0 :: L)) := ⟨h.then (below_alloc (Below.refl _ _) B)⟩
  have g0 := h0.1
  have g1 := h0.2
  have d1 : (kd % 4 == 2) = true := beq_iff_eq.2 hkd
  clear hkd
  clear h h0
  subst hB
  unfold opV
  go_enter Try.func37, Try.ntmps37
  go_wp2_with (go_at_call 32; refine S1.out.raw_store.mono ?_; rintro e w1 ⟨rfl, h⟩; have S2 := Aside0.mk h.raw_at_first; clear h)
  go_ret2
  exact ⟨rfl, S2.out⟩
theorem St.doraw0 {w0 w : World} {L : List Asn} {b : Nat} {kd a u : Int} {A : Option Addr} {n c : Nat} {xs : List S31} (h : St w0 w (MmA b [] none 0 0 :: L)) (h0 : 0 ≤ kd ∧ kd ≤ 255) (hkd : kd % 4 ≠ 2) (hkd2 : kd % 4 ≠ 3) :
    Calls Try.prog 37 #[.pointer (some ⟨b, 0, none⟩), opV kd a u A n c] w fun e w' => e = .returned (.tuple #[.int .u64 0, .int .i64 1]) ∧ St w0 w' (RawA b :: L) := by
  obtain ⟨B, hB⟩ : ∃ B : Obj, B = .cells #[.int .u8 kd, .int .i64 a, .int .u64 u, .slice A n c] 64 := ⟨_, rfl⟩
  have S1 : Aside0 (St w0 (w.alloc B) (MmA b [] none 0 0 :: L)) := ⟨h.then (below_alloc (Below.refl _ _) B)⟩
  have g0 := h0.1
  have g1 := h0.2
  have d1 : (kd % 4 == 2) = false := beq_eq_false_iff_ne.2 hkd
  have d2 : (kd % 4 == 3) = false := beq_eq_false_iff_ne.2 hkd2
  clear hkd hkd2
  clear h h0
  subst hB
  unfold opV
  go_enter Try.func37, Try.ntmps37
  go_wp2_with (go_at_call 34; refine S1.out.raw_load.mono ?_; rintro e w1 ⟨rfl, h⟩; have S2 := Aside0.mk h.raw_at_first; clear h)
  go_ret2
  exact ⟨rfl, S2.out⟩
theorem St.doraw3o {w0 w : World} {L : List Asn} {b : Nat} {kd a u : Int} {A : Option Addr} {n c : Nat} {xs : List S31} (h : St w0 w (MmA b [] none 0 0 :: L)) (h0 : 0 ≤ kd ∧ kd ≤ 255) (hkd : kd % 4 = 3) (hn : 1024 < n) :
    Calls Try.prog 37 #[.pointer (some ⟨b, 0, none⟩), opV kd a u A n c] w fun e w' => e = .returned (.tuple #[.int .u64 0, .int .i64 1]) ∧ St w0 w' (RawA b :: L) := by
  obtain ⟨B, hB⟩ : ∃ B : Obj, B = .cells #[.int .u8 kd, .int .i64 a, .int .u64 u, .slice A n c] 64 := ⟨_, rfl⟩
  have S1 : Aside0 (St w0 (w.alloc B) (MmA b [] none 0 0 :: L)) := ⟨h.then (below_alloc (Below.refl _ _) B)⟩
  have g0 := h0.1
  have g1 := h0.2
  have d1 : (kd % 4 == 2) = false := beq_eq_false_iff_ne.2 (by omega)
  have d2 : (kd % 4 == 3) = true := beq_iff_eq.2 hkd
  clear hkd
  have HN := Aside0.mk hn
  clear hn
  clear h h0
  subst hB
  unfold opV
  go_enter Try.func37, Try.ntmps37
  go_wp2_with (go_at_call 33; refine (S1.out.raw_nextFull HN.out).mono ?_; rintro e w1 ⟨rfl, hw⟩; obtain rfl := hw.symm; have S2 := Aside0.mk S1.out.raw_at_first)
  go_ret2
  exact ⟨rfl, S2.out⟩
theorem St.doraw3 {w0 w : World} {L : List Asn} {b : Nat} {kd a u : Int} {A : Option Addr} {n c : Nat} {xs : List S31} (h : St w0 w (MmA b [] none 0 0 :: L)) (h0 : 0 ≤ kd ∧ kd ≤ 255) (hkd : kd % 4 = 3) (hr : Kd.C k31 w A n xs) (hx : xs.length = n) (hn : n ≤ 1024) (ht : ∀ x ∈ xs, x.f3 ≤ 9223372036854775807) :
    Calls Try.prog 37 #[.pointer (some ⟨b, 0, none⟩), opV kd a u A n c] w fun e w' => e = .returned (.tuple #[.int .u64 0, .int .i64 0]) ∧ St w0 w' (RawA b :: L) := by
  obtain ⟨B, hB⟩ : ∃ B : Obj, B = .cells #[.int .u8 kd, .int .i64 a, .int .u64 u, .slice A n c] 64 := ⟨_, rfl⟩
  have S1 : Aside0 (St w0 (w.alloc B) (MmA b [] none 0 0 :: L)) := ⟨h.then (below_alloc (Below.refl _ _) B)⟩
  have g0 := h0.1
  have g1 := h0.2
  have d1 : (kd % 4 == 2) = false := beq_eq_false_iff_ne.2 (by omega)
  have d2 : (kd % 4 == 3) = true := beq_iff_eq.2 hkd
  clear hkd
  have HR : Aside0 (Kd.C k31 (w.alloc B) A n xs) := ⟨Kd.C_below hr (below_alloc (Below.refl _ _) B)⟩
  have HX := Aside0.mk hx
  have HN := Aside0.mk hn
  have OK : Aside0 (OkM ⟨[], xs, 0, 0⟩ 0) := ⟨⟨by simp only; omega, ht, by simp, by simp, by simp⟩⟩
  clear hr hx hn ht
  clear h h0
  subst hB
  unfold opV
  go_enter Try.func37, Try.ntmps37
  go_wp2_with (go_at_call 33; refine (S1.out.raw_next (c := c) HR.out HX.out HN.out).mono ?_; rintro e w1 ⟨rfl, h⟩; have S2 := Aside0.mk (St.raw_later OK.out h); clear h)
  go_ret2
  exact ⟨rfl, S2.out⟩
theorem nextM_raw {evs xs : List S31} : nextM ⟨[], evs, 0, 0⟩ xs = ⟨[], xs, 0, 0⟩ := by simp [nextM, stkL_none]
theorem St.dorawOk {w0 w : World} {L : List Asn} {b : Nat} {kd a u : Int} {A : Option Addr} {n c : Nat} {xs : List S31} (h : St w0 w (RawA b :: L)) (h0 : 0 ≤ kd ∧ kd ≤ 255) (hkd : kd % 4 = 3) (hr : Kd.C k31 w A n xs) (hx : xs.length = n) (hn : n ≤ 1024) (ht : ∀ x ∈ xs, x.f3 ≤ 9223372036854775807) :
    Calls Try.prog 37 #[.pointer (some ⟨b, 0, none⟩), opV kd a u A n c] w fun e w' => e = .returned (.tuple #[.int .u64 0, .int .i64 0]) ∧ St w0 w' (RawA b :: L) := by
  rcases h.raw_open with h | ⟨evs, ho, h⟩
  · exact h.doraw3 h0 hkd hr hx hn ht
  · have hd : doM ⟨[], evs, 0, 0⟩ kd a u xs = (⟨[], xs, 0, 0⟩, 0, 0) := by
      unfold doM
      rw [if_neg (by omega), if_pos hkd, if_pos (by omega), nextM_raw]
    refine (h.doAny (k := 0) (c := c) ho (by omega) h0 hr hx hd).mono ?_
    rintro e w' ⟨rfl, h2⟩
    exact ⟨rfl, St.raw_later ⟨by simp only; omega, ht, by simp, by simp, by simp⟩ h2⟩
theorem St.dorawNo {w0 w : World} {L : List Asn} {b : Nat} {kd a u : Int} {A : Option Addr} {n c : Nat} {xs : List S31} (h : St w0 w (RawA b :: L)) (h0 : 0 ≤ kd ∧ kd ≤ 255) (hkd : kd % 4 ≠ 3 ∨ 1024 < n) (hr : Kd.C k31 w A n xs) (hx : xs.length = n) :
    Calls Try.prog 37 #[.pointer (some ⟨b, 0, none⟩), opV kd a u A n c] w fun e w' => e = .returned (.tuple #[.int .u64 0, .int .i64 1]) ∧ St w0 w' (RawA b :: L) := by
  rcases h.raw_open with h | ⟨evs, ho, h⟩
  · by_cases h2 : kd % 4 = 2
    · exact h.doraw2 (xs := xs) h0 h2
    · by_cases h3 : kd % 4 = 3
      · exact h.doraw3o (xs := xs) h0 h3 (by omega)
      · exact h.doraw0 (xs := xs) h0 h2 h3
  · have hin : inM ⟨[], evs, 0, 0⟩ a = false := by
      cases hb : inM ⟨[], evs, 0, 0⟩ a with
      | false => rfl
      | true =>
        have := inM_iff.1 hb
        simp at this
        omega
    have hd : doM ⟨[], evs, 0, 0⟩ kd a u xs = (⟨[], evs, 0, 0⟩, 0, 1) := by
      unfold doM
      by_cases h2 : kd % 4 = 2
      · rw [if_pos h2, hin]; rfl
      · rw [if_neg h2]
        by_cases h3 : kd % 4 = 3
        · rw [if_pos h3, if_neg (by omega)]
        · rw [if_neg h3, hin]; rfl
    refine (h.doAny (k := 0) (c := c) ho (by omega) h0 hr hx hd).mono ?_
    rintro e w' ⟨rfl, h2⟩
    exact ⟨rfl, St.raw_later ho h2⟩
/-- Two memories that differ in the order of their events alone. -/
structure Alike (m n : MS) : Prop where
  ws : m.ws = n.ws
  evs : m.evs.Perm n.evs
  tk : m.tk = n.tk
  ah : m.ah = n.ah
theorem Alike.acc {m n : MS} (h : Alike m n) : Alike (accM m) (accM n) := by
  obtain ⟨h1, h2, h3, h4⟩ := h
  refine ⟨?_, ?_, ?_, h4⟩
  · simp only [accM]
    rw [h1, h3]
    exact stkL_perm (h2.filter _) _
  · simp only [accM]
    rw [h3]
    exact h2.filter _
  · simp only [accM]
    rw [h3]
theorem Alike.next {m n : MS} (h : Alike m n) (xs : List S31) : Alike (nextM m xs) (nextM n xs) := by
  obtain ⟨h1, h2, h3, h4⟩ := h
  refine ⟨?_, List.Perm.refl _, rfl, ?_⟩
  · simp only [nextM]
    rw [h1]
    exact stkL_perm h2 _
  · simp only [nextM]
    rw [h3, h4]
theorem Alike.set {m n : MS} (h : Alike m n) (a u : Int) : Alike (setM m a u) (setM n a u) := ⟨by simp only [setM]; rw [h.ws], h.evs, h.tk, h.ah⟩
theorem Alike.op {m n : MS} (h : Alike m n) (kd a u : Int) (xs : List S31) : ∃ m' n' v f, doM m kd a u xs = (m', v, f) ∧ doM n kd a u xs = (n', v, f) ∧ Alike m' n' := by
  have hin : inM n a = inM m a := by unfold inM; rw [h.ws]
  unfold doM
  rw [hin]
  by_cases h2 : kd % 4 = 2
  · rw [if_pos h2, if_pos h2]
    by_cases ha : inM m a = true
    · rw [if_pos ha, if_pos ha]; exact ⟨_, _, _, _, rfl, rfl, h.acc.set _ _⟩
    · rw [if_neg ha, if_neg ha]; exact ⟨_, _, _, _, rfl, rfl, h⟩
  · rw [if_neg h2, if_neg h2]
    by_cases h3 : kd % 4 = 3
    · rw [if_pos h3, if_pos h3]
      by_cases hn : xs.length ≤ 1024
      · rw [if_pos hn, if_pos hn]; exact ⟨_, _, _, _, rfl, rfl, h.next _⟩
      · rw [if_neg hn, if_neg hn]; exact ⟨_, _, _, _, rfl, rfl, h⟩
    · rw [if_neg h3, if_neg h3]
      by_cases ha : inM m a = true
      · rw [if_pos ha, if_pos ha]; exact ⟨_, _, _, _, rfl, by rw [h.acc.ws], h.acc⟩
      · rw [if_neg ha, if_neg ha]; exact ⟨_, _, _, _, rfl, rfl, h⟩
end Go.Proofs.Ytopmikcljekdiaa.Ag
