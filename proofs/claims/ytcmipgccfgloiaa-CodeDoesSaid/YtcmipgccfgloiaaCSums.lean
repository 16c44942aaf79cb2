/- code.sums: both sums, by closures. -/
import Derived.Test.YtcmipgccfgloiaaCMul
import Derived.RegionTactic
import Derived.StillTailTactics
namespace Go.Proofs.Ytcmipgccfgloiaa.Cd
open Go.RowKit Go.Proofs.YtcmipgccfgloiaaW.PrintWords Go.Proofs.YtcmipgccfgloiaaW.PrintLast Go.Proofs.YtcmipgccfgloiaaW.PrintMore Go.Proofs.Ytcmipgccfgloiaa.PC
set_option linter.unusedVariables false
set_option maxRecDepth 100000
set_option maxHeartbeats 8000000
/-- The sum of words, and that of each times its place. -/
def s0 (p : Int) : List Int → Int
  | [] => 0
  | w :: l => fAdd p (s0 p l) w
def s1 (p : Int) : List Int → Int
  | [] => 0
  | w :: l => fAdd p (s1 p l) (fAdd p (s0 p l) w)
theorem fAdd_bd {p a b : Int} (h : Kn p) : 0 ≤ fAdd p a b ∧ fAdd p a b < p := by
  have := h.bd
  exact ⟨Int.emod_nonneg _ (by omega), Int.emod_lt_of_pos _ (by omega)⟩
theorem fAdd_U64 {p a b : Int} (h : Kn p) : U64 (fAdd p a b) := by
  have h1 := h.bd
  have h2 := @fAdd_bd p a b h
  exact ⟨h2.1, by omega⟩
theorem s0_U64 {p : Int} (h : Kn p) : ∀ l, U64 (s0 p l)
  | [] => by unfold U64 s0; omega
  | w :: l => fAdd_U64 h
theorem s1_U64 {p : Int} (h : Kn p) : ∀ l, U64 (s1 p l)
  | [] => by unfold U64 s1; omega
  | w :: l => fAdd_U64 h
theorem s0_drop (p : Int) (l : List Int) (k : Nat) (h : k < l.length) : s0 p (l.drop k) = fAdd p (s0 p (l.drop (k + 1))) (rd l k) := by
  rw [List.drop_eq_getElem_cons h]
  simp [s0, rd, h]
theorem s1_drop (p : Int) (l : List Int) (k : Nat) (h : k < l.length) : s1 p (l.drop k) = fAdd p (s1 p (l.drop (k + 1))) (s0 p (l.drop k)) := by
  rw [s0_drop p l k h, List.drop_eq_getElem_cons h]
  simp [s1, rd, h]
theorem rd_U64 {l : List Int} (h : ∀ x ∈ l, U64 x) {k : Nat} (hk : k < l.length) : U64 (rd l k) := by
  have : rd l k = l[k] := by simp [rd, hk]
  rw [this]
  exact h _ (List.getElem_mem hk)
theorem step58 {p a x : Int} {pb : Nat} {w : World} (h : Kn p) (ha : U64 a) (hx : U64 x) (hp : w.cell? ⟨pb, 0, none⟩ = some (.int .u64 p)) :
    Calls Try.prog 58 #[.int .u64 a, .int .u64 x, .pointer (some ⟨pb, 0, none⟩)] w fun e w' => e = .returned (.int .u64 (fAdd p a x)) ∧ Drawn0 w w' := by
  have HA := Aside0.mk (fun w => add_calls h ha hx w)
  clear h ha hx
  go_enter Try.func58, Try.ntmps58
  go_wp2_with (go_at_call 28; refine (HA.out _).mono ?_; rintro e w2 ⟨rfl, ⟨nd, rfl⟩⟩)
  go_ret
  exact ⟨rfl, by repeat (first | exact Drawn0.refl _ | apply Drawn0.step)⟩
theorem run58 {p : Int} {pb lb n c : Nat} {A : Option Addr} {l : List Int} {w : World} (h : Kn p) (hl : ∀ x ∈ l, U64 x) (hp : w.cell? ⟨pb, 0, none⟩ = some (.int .u64 p)) (hb : w.cell? ⟨lb, 0, none⟩ = some (.slice A n c)) (hr : ReadsInt w .u64 A n l) (hn : n ≤ 1000000) :
    Calls Try.prog 57 #[.func (.func 58) #[] #[.pointer (some ⟨pb, 0, none⟩)], .pointer (some ⟨lb, 0, none⟩)] w fun e w' => e = .returned (.int .u64 (s0 p l)) ∧ Drawn0 w w' := by
  have HR := Aside0.mk hr
  have HL : Aside0 (l.length = n) := ⟨hr.1⟩
  have HU := Aside0.mk hl
  have HK := Aside0.mk h
  have HP := Aside0.mk hp
  have HB := Aside0.mk hb
  clear hr hl h hp hb
  go_enter Try.func57, Try.ntmps57
  have hb := HB.out
  go_wp2
  clear hb
  go_loopw [4, 5] (fun v4 v5 wr => ∃ (k : Nat), v4 = .int .u64 (s0 p (l.drop k)) ∧ v5 = .int .i64 ((k : Int) - 1) ∧ Aside0 (k ≤ n) ∧ Aside0 (Drawn0 w wr)) (fun _ v5 _ => (intOf v5 + 1).toNat)
  case atStart => exact ⟨n, by rw [List.drop_eq_nil_of_le (by have := HL.out; omega)]; rfl, by first | rfl | go_num, ⟨Nat.le_refl _⟩, ⟨Drawn0.refl _⟩⟩
  case round =>
    obtain ⟨k, rfl, rfl, HKn, ⟨⟨nd, rfl⟩⟩⟩ := hrel
    rcases k with _ | k
    · have d1 : decide ((0 : Int) ≤ ((0 : Nat) : Int) - 1) = false := by decide
      go_wp2
      go_ret
      exact ⟨rfl, ⟨_, rfl⟩⟩
    · have hkn : k < n := by have := HKn.out; omega
      have hkl : k < l.length := by have := HL.out; omega
      obtain ⟨ad, ea, x0⟩ := (HR.out.below (pw_below_drewN (Below.refl _ _) nd)).at_ (k : Int) (by omega) (by omega)
      rw [Int.toNat_natCast] at x0
      have hst := s0_drop p l k hkl
      have hru := rd_U64 HU.out hkl
      have ha := s0_U64 HK.out (l.drop (k + 1))
      have hb := HB.out
      have hp : (w.drewN nd).cell? ⟨pb, 0, none⟩ = some (.int .u64 p) := HP.out
      generalize rd l (k : Int) = x at *
      obtain ⟨a, hae⟩ : ∃ a, s0 p (l.drop (k + 1)) = a := ⟨_, rfl⟩
      rw [hae] at hst ha
      rw [hae]
      have HST := Aside0.mk hst
      have HC := Aside0.mk (step58 (w := w.drewN nd) HK.out ha hru hp)
      have hi : (((k + 1 : Nat) : Int) - 1) = (k : Int) := by omega
      rw [hi]
      clear hst hru ha hp hae hkl hi
      subst ea
      go_wp2_with (go_at_call 58; refine HC.out.mono ?_; rintro e w2 ⟨rfl, ⟨nd2, rfl⟩⟩)
      go_roundw
      case rel => exact ⟨k, by rw [HST.out], rfl, ⟨by omega⟩, ⟨by repeat (first | exact Drawn0.refl _ | exact ⟨_, rfl⟩ | apply Drawn0.step)⟩⟩
      case measure => simp [intOf]
/-- Nothing but a block is touched, and what is made later. -/
theorem grown_set {w w' : World} {tb : Nat} (h : w.grownBy w' (some tb)) (i : Nat) (u : Value) : w.grownBy (w'.setCell ⟨tb, i, none⟩ u) (some tb) :=
  ⟨h.os, h.tape, h.output, by have := h.size; simpa [World.setCell] using this, fun k hk hn => (Below.heap_setCell w' ⟨tb, i, none⟩ u k (fun e => hn (by rw [e]))).trans (h.block k hk hn)⟩
theorem grown_drewN {w w' : World} {tb : Nat} (h : w.grownBy w' (some tb)) (n : Nat) : w.grownBy (w'.drewN n) (some tb) := ⟨h.os, h.tape, h.output, h.size, h.block⟩
theorem cell_same {w : World} {tb : Nat} {v : Value} (h : w.cell? ⟨tb, 0, none⟩ = some v) (u : Value) : (w.setCell ⟨tb, 0, none⟩ u).cell? ⟨tb, 0, none⟩ = some u := by
  obtain ⟨o, ho⟩ : ∃ o, w.heap[tb]? = some o := by
    rcases hh : w.heap[tb]? with _ | o
    · simp [World.cell?, hh] at h
    · exact ⟨o, rfl⟩
  rcases o with ⟨cs, t, fr⟩ | _
  · have h2 : cs[0]? = some v := by simpa [World.cell?, ho] using h
    have h3 : 0 < cs.size := (Array.getElem?_eq_some_iff.1 h2).1
    simp [World.cell?, World.setCell, Array.getElem?_modify, ho, h3]
  all_goals simp [World.cell?, ho] at h
theorem frozen_same {w : World} {tb : Nat} (h : w.frozen? ⟨tb, 0, none⟩ = false) (u : Value) : (w.setCell ⟨tb, 0, none⟩ u).frozen? ⟨tb, 0, none⟩ = false := by simp [h]
theorem step59 {p a t x : Int} {pb tb : Nat} {w : World} (h : Kn p) (ha : U64 a) (ht : U64 t) (hx : U64 x) (hne : pb ≠ tb) (hp : w.cell? ⟨pb, 0, none⟩ = some (.int .u64 p)) (htb : w.cell? ⟨tb, 0, none⟩ = some (.int .u64 t)) (hf : w.frozen? ⟨tb, 0, none⟩ = false) :
    Calls Try.prog 59 #[.int .u64 a, .int .u64 x, .pointer (some ⟨pb, 0, none⟩), .pointer (some ⟨tb, 0, none⟩)] w fun e w' => e = .returned (.int .u64 (fAdd p a (fAdd p t x))) ∧ w.grownBy w' (some tb) ∧ w'.cell? ⟨tb, 0, none⟩ = some (.int .u64 (fAdd p t x)) ∧ w'.frozen? ⟨tb, 0, none⟩ = false := by
  have HA := Aside0.mk (fun w => add_calls h ht hx w)
  have HB := Aside0.mk (fun w => add_calls h ha (@fAdd_U64 p t x h) w)
  obtain ⟨y, hy⟩ : ∃ y, fAdd p t x = y := ⟨_, rfl⟩
  rw [hy] at HA HB
  rw [hy]
  have e1 : (w.setCell ⟨tb, 0, none⟩ (.int .u64 y)).cell? ⟨pb, 0, none⟩ = some (.int .u64 p) := (World.cell?_setCell_other w _ _ _ (fun e => hne (by injection e with e; exact e.symm))).trans hp
  clear h ha ht hx hy
  go_enter Try.func59, Try.ntmps59
  go_wp2_with (first
    | (go_at_call 28; have t_ := FIRST.out; clear t_; refine (HB.out _).mono ?_; rintro e w2 ⟨rfl, ⟨nd2, rfl⟩⟩)
    | (go_at_call 28; refine (HA.out _).mono ?_; rintro e w2 ⟨rfl, ⟨nd, rfl⟩⟩; have FIRST : Aside0 (0 ≤ 1) := ⟨by decide⟩))
  go_ret
  refine ⟨rfl, grown_drewN (grown_set (grown_drewN (World.grownBy.refl w (some tb)) nd) 0 _) nd2, ?_, ?_⟩
  · exact cell_same htb _
  · exact frozen_same hf _
theorem grown_trans {w w1 w2 : World} {tb : Nat} (h : w.grownBy w1 (some tb)) (k : w1.grownBy w2 (some tb)) : w.grownBy w2 (some tb) :=
  ⟨k.os.trans h.os, k.tape.trans h.tape, k.output.trans h.output, Nat.le_trans h.size k.size, fun i hi hn => (k.block i (by have := h.size; omega) hn).trans (h.block i hi hn)⟩
theorem run59 {p : Int} {pb lb tb n c : Nat} {A : Option Addr} {l : List Int} {w : World} (h : Kn p) (hl : ∀ x ∈ l, U64 x) (hp : w.cell? ⟨pb, 0, none⟩ = some (.int .u64 p)) (hb : w.cell? ⟨lb, 0, none⟩ = some (.slice A n c)) (hr : ReadsInt w .u64 A n l) (hn : n ≤ 1000000)
    (hpt : pb ≠ tb) (hlt : lb ≠ tb) (hA : 0 < n → ∀ ad, A = some ad → ad.block ≠ tb) (ht : w.cell? ⟨tb, 0, none⟩ = some (.int .u64 0)) (hf : w.frozen? ⟨tb, 0, none⟩ = false) :
    Calls Try.prog 57 #[.func (.func 59) #[] #[.pointer (some ⟨pb, 0, none⟩), .pointer (some ⟨tb, 0, none⟩)], .pointer (some ⟨lb, 0, none⟩)] w fun e w' => e = .returned (.int .u64 (s1 p l)) ∧ w.grownBy w' (some tb) := by
  have HR := Aside0.mk hr
  have HL : Aside0 (l.length = n) := ⟨hr.1⟩
  have HU := Aside0.mk hl
  have HK := Aside0.mk h
  have HP := Aside0.mk hp
  have HB := Aside0.mk hb
  have HPT := Aside0.mk hpt
  have HLT := Aside0.mk hlt
  have HAT := Aside0.mk hA
  have HT := Aside0.mk ht
  have HF := Aside0.mk hf
  have hkeep : ∀ {wr : World} {a : Addr} {v : Value}, w.grownBy wr (some tb) → w.cell? a = some v → a.block ≠ tb → wr.cell? a = some v := fun hg hc hne => hg.cell hc (fun e => hne (by injection e))
  have HKEEP : Aside0 (∀ {wr : World} {a : Addr} {v : Value}, w.grownBy wr (some tb) → w.cell? a = some v → a.block ≠ tb → wr.cell? a = some v) := ⟨hkeep⟩
  clear hr hl h hp hpt hlt hA ht hf hkeep
  go_enter Try.func57, Try.ntmps57
  go_wp2
  clear hb
  go_loopw [4, 5] (fun v4 v5 wr => ∃ (k : Nat), v4 = .int .u64 (s1 p (l.drop k)) ∧ v5 = .int .i64 ((k : Int) - 1) ∧ Aside0 (k ≤ n) ∧ Aside0 (w.grownBy wr (some tb)) ∧ Aside0 (wr.cell? ⟨tb, 0, none⟩ = some (.int .u64 (s0 p (l.drop k))) ∧ wr.frozen? ⟨tb, 0, none⟩ = false)) (fun _ v5 _ => (intOf v5 + 1).toNat)
  case atStart => exact ⟨n, by rw [List.drop_eq_nil_of_le (by have := HL.out; omega)]; rfl, rfl, ⟨Nat.le_refl _⟩, ⟨World.grownBy.refl w _⟩, ⟨by rw [List.drop_eq_nil_of_le (by have := HL.out; omega)]; exact ⟨HT.out, HF.out⟩⟩⟩
  case round =>
    obtain ⟨k, rfl, rfl, HKn, HG, HTB⟩ := hrel
    rcases k with _ | k
    · have d1 : decide ((0 : Int) ≤ ((0 : Nat) : Int) - 1) = false := by decide
      go_wp2
      go_ret
      exact ⟨rfl, HG.out⟩
    · have hkn : k < n := by have := HKn.out; omega
      have hkl : k < l.length := by have := HL.out; omega
      obtain ⟨ad, ea, x0⟩ := HR.out.at_ (k : Int) (by omega) (by omega)
      rw [Int.toNat_natCast] at x0
      have x0 := HKEEP.out HG.out x0 (by
        have h1 := HAT.out (by omega) ad ea
        unfold Addr.add
        split <;> exact h1)
      have hst := s0_drop p l k hkl
      have hst1 := s1_drop p l k hkl
      have hru := rd_U64 HU.out hkl
      have ht := s0_U64 HK.out (l.drop (k + 1))
      have ha := s1_U64 HK.out (l.drop (k + 1))
      have hb := HKEEP.out HG.out HB.out HLT.out
      have hp := HKEEP.out HG.out HP.out HPT.out
      have htb := HTB.out
      generalize rd l (k : Int) = x at *
      obtain ⟨t, hte⟩ : ∃ t, s0 p (l.drop (k + 1)) = t := ⟨_, rfl⟩
      obtain ⟨a, hae⟩ : ∃ a, s1 p (l.drop (k + 1)) = a := ⟨_, rfl⟩
      rw [hte] at hst ht htb
      rw [hae] at hst1 ha
      rw [hst] at hst1
      rw [hae]
      have HST := Aside0.mk hst
      have HST1 := Aside0.mk hst1
      have HC := Aside0.mk (step59 (w := wr) HK.out ha ht hru HPT.out hp htb.1 htb.2)
      have hi : (((k + 1 : Nat) : Int) - 1) = (k : Int) := by omega
      rw [hi]
      clear hst hst1 hru ha ht hp hae hte hkl hi htb
      subst ea
      go_wp2_with (go_at_call 59; refine HC.out.mono ?_; rintro e w2 ⟨rfl, hg2, hc2, hf2⟩; have G2 := Aside0.mk hg2; have C2 : Aside0 (w2.cell? ⟨tb, 0, none⟩ = some (.int .u64 (fAdd p t x)) ∧ w2.frozen? ⟨tb, 0, none⟩ = false) := ⟨⟨hc2, hf2⟩⟩; clear hg2 hc2 hf2)
      go_roundw
      case rel => exact ⟨k, by rw [HST1.out], rfl, ⟨by omega⟩, ⟨grown_trans HG.out G2.out⟩, ⟨by rw [HST.out]; exact C2.out⟩⟩
      case measure => simp [intOf]
theorem reads_block {w : World} {k : IntKind} {A : Option Addr} {n : Nat} {l : List Int} (h : ReadsInt w k A n l) (hn : 0 < n) : ∀ ad, A = some ad → ad.block < w.heap.size := by
  intro ad e
  obtain ⟨ad', e', hc⟩ := h.2.2 hn
  rw [e] at e'
  injection e' with e'
  subst e'
  have := World.block_lt_of_cell? w _ (hc 0 hn)
  unfold Addr.add at this
  simpa using this
theorem grown_frozen {w w' : World} {row : Option Nat} (hg : w.grownBy w' row) {a : Addr} (hlt : a.block < w.heap.size) (hne : some a.block ≠ row) : w'.frozen? a = w.frozen? a := by
  unfold World.frozen?
  rw [hg.block a.block hlt hne]
theorem below_of_grown {n : Nat} {w0 w w' : World} {tb : Nat} (hg : w.grownBy w' (some tb)) (hb : Below n w0 w) (ht : n ≤ tb) (hn : n ≤ w0.heap.size) : Below n w0 w' :=
  ⟨hg.os.trans hb.os, hg.tape.trans hb.tape, hg.output.trans hb.output, Nat.le_trans hb.size hg.size, fun i hi => (hg.block i (by have := hb.size; omega) (fun e => by injection e; omega)).trans (hb.block i hi)⟩
theorem sums_calls {p : Int} {n c : Nat} {A : Option Addr} {l : List Int} {w : World} (h : Kn p) (hl : ∀ x ∈ l, U64 x) (hr : ReadsInt w .u64 A n l) (hn : n ≤ 1000000) :
    Calls Try.prog 45 #[.int .u64 p, .slice A n c] w fun e w' => e = .returned (.agg #[.int .u64 (s0 p l), .int .u64 (s1 p l)]) ∧ Below w.heap.size w w' := by
  have HK := Aside0.mk h
  have HU := Aside0.mk hl
  have HR := Aside0.mk hr
  have HN := Aside0.mk hn
  clear h hl hr hn
  go_enter Try.func45, Try.ntmps45
  go_wp2_with fail
  refine (run58 (c := c) HK.out HU.out (by go_simp) (by go_simp) (HR.out.below (by repeat (first | exact Below.refl _ _ | apply below_alloc))) HN.out).mono ?_
  rintro e w2 ⟨rfl, ⟨nd, rfl⟩⟩
  go_wp2_with fail
  refine (run59 (c := c) HK.out HU.out (by go_simp) (by go_simp) (HR.out.below (below_alloc (Below.setCell (pw_below_drewN (below_alloc (below_alloc (below_alloc (below_alloc (Below.refl _ _) _) _) _) _) _) (by simp; omega) _) _)) HN.out (by omega) (by omega) (fun h0 ad e => by have := reads_block HR.out h0 ad e; omega) (by go_simp) (by go_simp)).mono ?_
  rintro e w3 ⟨rfl, hg⟩
  have c30 : w3.cell? ⟨w.heap.size + 1 + 1 + 1, 0, none⟩ = some (.int .u64 (s0 p l)) := hg.cell (by go_simp) (by simp)
  have c31 : w3.cell? ⟨w.heap.size + 1 + 1 + 1, 1, none⟩ = some (.int .u64 0) := hg.cell (by go_simp) (by simp)
  have c20 : w3.cell? ⟨w.heap.size + 1 + 1, 0, none⟩ = some (.int .u64 0) := hg.cell (by go_simp) (by simp)
  have c21 : w3.cell? ⟨w.heap.size + 1 + 1, 1, none⟩ = some (.int .u64 0) := hg.cell (by go_simp) (by simp)
  have f31 : w3.frozen? ⟨w.heap.size + 1 + 1 + 1, 1, none⟩ = false := (grown_frozen hg (by simp) (by simp)).trans (by go_simp)
  have f20 : w3.frozen? ⟨w.heap.size + 1 + 1, 0, none⟩ = false := (grown_frozen hg (by simp) (by simp)).trans (by go_simp)
  have f21 : w3.frozen? ⟨w.heap.size + 1 + 1, 1, none⟩ = false := (grown_frozen hg (by simp) (by simp)).trans (by go_simp)
  have HG := Aside0.mk hg
  clear hg
  go_wp2
  refine bodyPost_ret (v := .agg #[.int .u64 (s0 p l), .int .u64 (s1 p l)]) ?_ rfl ⟨rfl, ?_⟩
  · simp [results, Try.f45, go_sem, c20, c21]
  · refine Below.setCell (Below.setCell (Below.setCell ?_ (by simp; omega) _) (by simp; omega) _) (by simp; omega) _
    exact below_of_grown HG.out (below_alloc (Below.setCell (pw_below_drewN (below_alloc (below_alloc (below_alloc (below_alloc (Below.refl _ _) _) _) _) _) _) (by simp; omega) _) _) (by omega) (Nat.le_refl _)
end Go.Proofs.Ytcmipgccfgloiaa.Cd
