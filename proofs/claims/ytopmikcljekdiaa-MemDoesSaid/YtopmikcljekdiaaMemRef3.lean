/- The reference's memory: Next, New. -/
import Derived.Test.YtopmikcljekdiaaMemRef2
namespace Go.Proofs.Ytopmikcljekdiaa.Ag
open Go.RowKit Go.Proofs.YtopmikcljekdiaaW.PrintWords Go.Proofs.YtopmikcljekdiaaW.PrintLast Go.Proofs.YtopmikcljekdiaaW.PrintMore Go.Proofs.Ytopmikcljekdiaa.PA Go.Proofs.Ytopmikcljekdiaa.SL
set_option linter.unusedVariables false
set_option maxRecDepth 100000
set_option maxHeartbeats 16000000
theorem check56_full {A : Option Addr} {n c : Nat} {w : World} (hn : 1024 < n) : Calls Try.prog 56 #[.slice A n c] w fun e w' => e = .returned (.int .i64 1) ∧ w' = w := by
  have h1 : decide ((1024 : Int) < (n : Int)) = true := decide_eq_true (by omega)
  go_enter Try.func56, Try.ntmps56
  go_wp2
  go_ret
  exact ⟨rfl, rfl⟩
theorem rnextOut_calls {w : World} {b : Nat} {A : Option Addr} {n c : Nat} (hn : 1024 < n) :
    Calls Try.prog 42 #[.pointer (some ⟨b, 0, none⟩), .slice A n c] w fun e w' => e = .returned (.int .i64 1) ∧ w' = w := by
  have HN := Aside0.mk hn
  clear hn
  go_enter Try.func42, Try.ntmps42
  go_wp2_with (go_at_call 56; refine (check56_full HN.out).mono ?_; rintro e w2 ⟨rfl, hw⟩; obtain rfl := hw.symm)
  go_ret
  exact ⟨rfl, rfl⟩
theorem rnext_calls {w0 w : World} {L : List Asn} {b k : Nat} {m : MS} {A : Option Addr} {n c : Nat} {xs : List S31} (h : St w0 w (RmA b m :: L)) (hk : OkM m k) (hk2 : k ≤ 100000) (h64 : ∀ x ∈ m.ws, W64 x) (hr : Kd.C k31 w0 A n xs) (hx : xs.length = n) (hn : n ≤ 1024) :
    Calls Try.prog 42 #[.pointer (some ⟨b, 0, none⟩), .slice A n c] w fun e w' => e = .returned (.int .i64 0) ∧ St w0 w' (RmA b (nextM m xs) :: L) := by
  have q1 := hk.tkb
  have q2 := hk.ahb
  have hall : m.evs.filter (upto 9223372036854775807) = m.evs := List.filter_eq_self.2 (fun x hx => decide_eq_true (hk.tick x hx))
  have hsk := rstrike_calls (t := 9223372036854775807) h hk.few hk.wb h64
  rw [hall] at hsk
  obtain ⟨tk, htk⟩ : ∃ tk, m.tk = tk := ⟨_, rfl⟩
  obtain ⟨ah, hah⟩ : ∃ ah, m.ah = ah := ⟨_, rfl⟩
  obtain ⟨ws, hws⟩ : ∃ ws, stkL m.ws m.evs = ws := ⟨_, rfl⟩
  obtain ⟨ev, hev⟩ : ∃ ev, m.evs.filter (past 9223372036854775807) = ev := ⟨_, rfl⟩
  have hm : ({ m with ws := stkL m.ws m.evs, evs := m.evs.filter (past 9223372036854775807) } : MS) = ⟨ws, ev, tk, ah⟩ := by rw [hws, hev, htk, hah]
  rw [hm] at hsk
  have hnx : nextM m xs = ⟨ws, xs, 0, ah + tk⟩ := by unfold nextM; rw [hws, htk, hah]
  rw [htk] at q1 q2
  rw [hah] at q2
  have e1 : 0 ≤ tk := q1.1
  have e2 : tk ≤ 100000 := by omega
  have e3 : 0 ≤ ah := q2.1
  have e4 : ah ≤ 100000 := by omega
  have HSK := Aside0.mk hsk
  have HR := Aside0.mk hr
  have HX := Aside0.mk hx
  have HN := Aside0.mk hn
  have HB : Aside0 (([] : List S31).length + n ≤ 100000) := ⟨by simp; omega⟩
  rw [hnx]
  clear h hk hk2 h64 hr hx hn hall hsk htk hah hws hev hm hnx q1 q2
  go_enter Try.func42, Try.ntmps42
  go_wp2_with (first
    | (go_at_call 56; refine (check56_ok HN.out).mono ?_; rintro e w2 ⟨rfl, hw⟩; obtain rfl := hw.symm)
    | (go_at_call 58; refine HSK.out.mono ?_; rintro e w3 ⟨rfl, h⟩; have S3 := Aside0.mk (nil_EvA h); clear h)
    | (at_builtin; refine St.append (ds := xs) S3.out (below_C HR.out S3.out.below) rfl (.const (.slice none 0 0)) (.tmp 15) rfl rfl rfl HB.out rfl ?_; intro A2 c2 w4 hc2 h; have s5 := h.sw1.rput_evs; obtain ⟨_, _, _, _, _, _, _, _, zf, _⟩ := h.sw1.rcells; have z1 := zf 1; obtain ⟨_, _, _, _, _, _, y2, y3, yf, _⟩ := s5.rcells; have y3f := yf 3; simp only at y2 y3; have S5 := Aside0.mk s5; clear h zf yf s5 hc2))
  go_region
  all_goals
    have s6 := S5.out.rset (j := 3) (x := .int .i64 (ah + tk)) (m' := ⟨ws, xs, tk, ah + tk⟩) rfl rfl (fun v u => rfl)
    obtain ⟨_, _, _, _, _, _, u2, _, uf, _⟩ := s6.rcells
    have u2f := uf 2
    simp only at u2
    have S6 := Aside0.mk s6
    clear s6 uf
    go_wp2
    go_ret
    have h7 := S6.out.rset (j := 2) (x := .int .i64 0) (m' := ⟨ws, xs, 0, ah + tk⟩) rfl rfl (fun v u => rfl)
    refine ⟨rfl, ?_⟩
    first | exact h7 | exact h7.then (below_drew (Below.refl _ _)) | exact h7.then (pw_below_drewN (Below.refl _ _) _)
theorem app_evs {W w1 : World} {v1 : Value} {xs : List S31} (hr : Kd.R k31 31 w1 0 (fun _ => True) v1 ([] ++ xs)) (hg : W.grownBy w1 none) (hat : v1.ownBlock = none ∨ ∃ b, v1.ownBlock = some b ∧ W.heap.size ≤ b) :
    EvR w1 v1 xs ∧ Below W.heap.size W w1 ∧ ∀ k, own1 v1 k → W.heap.size ≤ k := by
  rw [List.nil_append] at hr
  refine ⟨EvR.of_R hr, ⟨hg.os, hg.tape, hg.output, hg.size, fun k hk => hg.block k hk (fun e => by cases e)⟩, fun k hk => ?_⟩
  unfold own1 at hk
  rcases hat with h | ⟨b, h, h2⟩
  · rw [h] at hk; cases hk
  · rw [h] at hk; cases hk; exact h2
/-- What New makes: words, events, and the block that holds both. -/
theorem rm_made {w W : World} {v u : Value} {ws : List Int} {xs : List S31} (hb : Below w.heap.size w W) (hv : WoR W v ws) (hu : EvR W u xs) (hvn : ∀ k, own1 v k → w.heap.size ≤ k) (hun : ∀ k, own1 u k → w.heap.size ≤ k) :
    St w (W.alloc (.cells #[v, u, .int .i64 0, .int .i64 0] 91)) [RmA W.heap.size ⟨ws, xs, 0, 0⟩] := by
  have hb2 := below_alloc (Below.refl W.heap.size W) (.cells #[v, u, .int .i64 0, .int .i64 0] 91)
  have hb3 : Below w.heap.size w (W.alloc (.cells #[v, u, .int .i64 0, .int .i64 0] 91)) := below_then hb hb.size hb2
  have hs := hb.size
  refine (St.nil w).add (F' := fun k => w.heap.size ≤ k ∧ k < W.heap.size + 1) ⟨hb3.os, hb3.tape, hb3.output, hb3.size, fun k hk _ => hb3.block k hk, fun k hk => .inr hk.1⟩ ⟨fun k hk => by simp; exact hk.2, ⟨hs, by omega⟩, v, u, heap_alloc_new W _, pw_own_below hv hb2, pw_own_below hu hb2, fun k hk => ⟨hvn k hk, by have := own1_lt hv k hk; omega⟩, fun k hk => ⟨hun k hk, by have := own1_lt hu k hk; omega⟩⟩
theorem rnew_calls {n m c : Nat} {A : Option Addr} {xs : List S31} {w : World} (h1 : 1 ≤ n) (h2 : n ≤ 16384) (hr : Kd.C k31 w A m xs) (hx : xs.length = m) (hm : m ≤ 1024) :
    Calls Try.prog 40 #[.int .i64 n, .slice A m c] w fun e w' => ∃ b, e = .returned (.tuple #[.pointer (some ⟨b, 0, none⟩), .int .i64 0]) ∧ St w w' [RmA b ⟨List.replicate n 0, xs, 0, 0⟩] := by
  have d1 : decide ((n : Int) < 1) = false := decide_eq_false (by omega)
  have d2 : decide ((16384 : Int) < (n : Int)) = false := decide_eq_false (by omega)
  have hmk := print_make (P := Try.prog) 62 29 .u64 8 Try.underlying62 info29 (by decide) n (by omega)
  have HM := Aside0.mk hm
  have HRD : Aside0 (∀ W, Below w.heap.size w W → Kd.C k31 W A m xs) := ⟨fun W hb => Kd.C_below hr hb⟩
  have how : ∀ W : World, WoR (W.alloc (wordsO n)) (.slice (some ⟨W.heap.size, 0, none⟩) n n) (List.replicate n 0) := fun W => by
    unfold WoR
    rw [List.length_replicate]
    exact own_made W 0 29 .u64 n (Nat.zero_le _) (by omega)
  have hof : ∀ k g : Nat, own1 (.slice (some ⟨g, 0, none⟩) n n) k → k = g := fun k g hk => by
    have : g = k := by simpa [own1, Value.ownBlock] using hk
    exact this.symm
  have hbd : Below w.heap.size w w.drew := below_drew (Below.refl _ _)
  have hba : Below w.heap.size w (w.alloc (wordsO n)).drew := below_drew (below_alloc (Below.refl _ _) _)
  have R1 : Aside0 (∀ v1 w1, EvR w1 v1 xs ∧ Below w.drew.heap.size w.drew w1 ∧ (∀ k, own1 v1 k → w.drew.heap.size ≤ k) → St w ((w1.alloc (wordsO n)).alloc (.cells #[.slice (some ⟨w1.heap.size, 0, none⟩) n n, v1, .int .i64 0, .int .i64 0] 91)) [RmA (w1.heap.size + 1) ⟨List.replicate n 0, xs, 0, 0⟩]) :=
    ⟨fun u1 w1 ⟨eu1, bl1, fr1⟩ => by
      have e9 : (w1.alloc (wordsO n)).heap.size = w1.heap.size + 1 := by simp
      rw [← e9]
      exact rm_made (w := w) (W := w1.alloc (wordsO n)) (below_alloc (below_then hbd hbd.size bl1) _) (how w1) (pw_own_below eu1 (below_alloc (Below.refl _ _) _)) (fun k hk => by have := hof k _ hk; have := bl1.size; have h9 : w.drew.heap.size = w.heap.size := rfl; omega) (fun k hk => fr1 k hk)⟩
  have R2 : Aside0 (∀ v2 w2, EvR w2 v2 xs ∧ Below (w.alloc (wordsO n)).drew.heap.size (w.alloc (wordsO n)).drew w2 ∧ (∀ k, own1 v2 k → (w.alloc (wordsO n)).drew.heap.size ≤ k) → St w (w2.alloc (.cells #[.slice (some ⟨w.heap.size, 0, none⟩) n n, v2, .int .i64 0, .int .i64 0] 91)) [RmA w2.heap.size ⟨List.replicate n 0, xs, 0, 0⟩]) :=
    ⟨fun u2 w2 ⟨eu2, bl2, fr2⟩ => rm_made (w := w) (W := w2) (below_then hba hba.size bl2) (pw_own_below (w := (w.alloc (wordsO n)).drew) (how w) bl2) eu2 (fun k hk => by have := hof k _ hk; omega) (fun k hk => Nat.le_trans hba.size (fr2 k hk))⟩
  have HMB : Aside0 ((([] : List S31).length + m) * 48 ≤ 140737488355328) := ⟨by simp; omega⟩
  clear hr hx hm h1 h2 how hof hbd hba
  unfold wordsO at R1 R2
  go_enter Try.func40, Try.ntmps40
  go_wp2_with (go_at_call 56; refine (check56_ok HM.out).mono ?_; rintro e w3 ⟨rfl, hw⟩; obtain rfl := hw.symm)
  go_region_law (refine Kd.R_append_rows_step k31 0 rfl (.const (.slice none 0 0)) (.tmp 19) 22 31 (.agg #[.int .i64 0, .int .i64 0, .int .i64 0, .int .i64 0, .int .i64 0, .int .u64 0]) 48 rfl Try.underlying22 info31 rfl (by decide) (by decide) (.slice none 0 0) [] xs A m c (fun _ => True) (fun _ => False) rfl (by first | (simp [Act.eval]; done) | (simp [Act.eval, Act.put]; done)) (Kd.R_nil _ _ _ _ _) (HRD.out _ (by repeat (first | exact Below.refl _ _ | apply below_drew | apply below_alloc))) (fun x cs hk => by rw [k31_open hk]; exact k31_mkM _ _ _ _) (fun _ hk => hk.elim) (fun _ _ => trivial) (Below.refl _ _) (Nat.zero_le _) HMB.out ?_; intro v1 w1 hr1 hb1 hg1 hat1; have he := app_evs hr1 hg1 hat1; clear hr1 hb1 hg1 hat1; obtain ⟨A', c', rfl, hc', hk'⟩ := he.1.form; have HE := Aside0.mk he; clear he hc' hk')
  all_goals
    go_wp2
    go_ret2
    first
      | exact ⟨_, rfl, R1.out _ _ HE.out⟩
      | exact ⟨_, rfl, R2.out _ _ HE.out⟩
theorem rnew_bad {w : World} {n : Int} {v : Value} (h : n < 1 ∨ 16384 < n) :
    Calls Try.prog 40 #[.int .i64 n, v] w fun e w' => e = .returned (.tuple #[.pointer none, .int .i64 1]) ∧ w' = w := by
  have hcs : decide (n < 1) = true ∨ (decide (n < 1) = false ∧ decide (16384 < n) = true) := by
    simp only [decide_eq_true_eq, decide_eq_false_iff_not]
    omega
  clear h
  rcases hcs with d1 | ⟨d1, d2⟩
  all_goals
    go_enter Try.func40, Try.ntmps40
    go_wp2
    go_ret2
    exact ⟨rfl, rfl⟩
end Go.Proofs.Ytopmikcljekdiaa.Ag
