/- A memory: Next, New, Words; rows of words. -/
import Derived.Test.YtopmikcljekdiaaMemF
namespace Go.Proofs.Ytopmikcljekdiaa.Ag
open Go.RowKit Go.Proofs.YtopmikcljekdiaaW.PrintWords Go.Proofs.YtopmikcljekdiaaW.PrintLast Go.Proofs.YtopmikcljekdiaaW.PrintMore Go.Proofs.Ytopmikcljekdiaa.PA Go.Proofs.Ytopmikcljekdiaa.SL
set_option linter.unusedVariables false
set_option maxRecDepth 100000
set_option maxHeartbeats 8000000
/-- A row of words, held by itself. -/
def WoA (v : Value) (ws : List Int) : Asn := ⟨fun w F => (∀ k, F k → k < w.heap.size) ∧ WoR w v ws ∧ ∀ k, own1 v k → F k, fun h k hk => h.1 k hk, fun h hm => ⟨lt_keep h.1 hm, own_move h.2.1 (fun k hk => hm k (h.2.2 k hk)), h.2.2⟩⟩
theorem WoR.reads {w : World} {v : Value} {ws : List Int} (h : WoR w v ws) : ∃ A c, v = .slice A ws.length c ∧ ws.length ≤ c ∧ ReadsInt w .u64 A ws.length ws := by
  obtain ⟨A, c, rfl, hr⟩ := own_reads h
  exact ⟨A, c, rfl, own_le h, hr⟩
theorem St.wread {w0 w : World} {L : List Asn} {A : Option Addr} {n c : Nat} {ws : List Int} (h : St w0 w (WoA (.slice A n c) ws :: L)) (hn : ws.length = n) : n ≤ c ∧ ReadsInt w .u64 A n ws := by
  subst hn
  obtain ⟨F, hA, _, _⟩ := h.one
  obtain ⟨A', c', e, hc, hr⟩ := hA.2.1.reads
  injection e with e1 e2 e3
  subst e1 e3
  exact ⟨hc, hr⟩
theorem due_max {es : List S81} {pv : Int} {l : List S31} (h : Rank es pv l) (ht : ∀ x ∈ l, x.f3 ≤ 9223372036854775807) : (dueE 9223372036854775807 es.length es).1 = l := by
  rw [(rank_due 9223372036854775807 h).1]
  exact List.filter_eq_self.2 (fun x hx => decide_eq_true (ht x hx))
theorem rank_new (xs : List S31) : ∃ l, Rank (pushN ([], 0) xs).1 (pushN ([], 0) xs).2 l ∧ l.Perm xs := by
  have h := rank_put xs ([], 0) [] rank_nil
  refine ⟨_, h, (rank_perm h).trans ?_⟩
  have := push_perm xs ([], 0)
  simpa using this
/-- The window's end: what is held of the old agenda is dropped. -/
theorem St.next_ {w0 w : World} {L : List Asn} {b k : Nat} {m : MS} {A : Option Addr} {n c : Nat} {xs : List S31} (h : St w0 w (MemA b m :: L)) (hk : OkM m k) (hk2 : k ≤ 100000) (hr : Kd.C k31 w A n xs) (hx : xs.length = n) (hn : n ≤ 1024) :
    Calls Try.prog 33 #[.pointer (some ⟨b, 0, none⟩), .slice A n c] w fun e w' => e = .returned (.int .i64 0) ∧ St w0 w' (MemA b (nextM m xs) :: L) := by
  obtain ⟨g, es, pv, l, h1, h2, h3⟩ := h.mem_open
  have e1 := (rank_perm h1).length_eq
  have e2 := h2.length_eq
  have e3 := hk.few
  have e4 := hk.tkb
  have e5 := hk.wb
  have e6 := hk.ahb
  rw [List.length_map] at e1
  have hd := due_max h1 (fun x hx => hk.tick x (h2.subset hx))
  obtain ⟨l', r1, r2⟩ := rank_new xs
  obtain ⟨P, pv', hP⟩ : ∃ P pv', pushN ([], 0) xs = (P, pv') := ⟨_, _, rfl⟩
  rw [hP] at r1
  have HBEG := Aside0.mk (h3.begin (c := c) hr hx hn)
  rw [hP] at HBEG
  obtain ⟨A2, c2, y0, y1, y2, y3, yf⟩ := h3.mcells
  have HD := Aside0.mk hd
  have HES : Aside0 (es.length ≤ 1024) := ⟨by omega⟩
  have HLL : Aside0 (l.length ≤ 100000) := ⟨by omega⟩
  have HW : Aside0 (m.ws.length ≤ 100000) := ⟨by omega⟩
  have R1 := Aside0.mk r1
  have R2 := Aside0.mk r2
  have H2 := Aside0.mk h2
  obtain ⟨tk, htk⟩ : ∃ tk, m.tk = tk := ⟨_, rfl⟩
  obtain ⟨ah, hah⟩ : ∃ ah, m.ah = ah := ⟨_, rfl⟩
  rw [htk, hah] at HBEG
  rw [htk] at y2 e4 e6
  rw [hah] at y3 e6
  have s1 : 0 ≤ tk := e4.1
  have s2 : tk ≤ 100000 := by omega
  have s3 : 0 ≤ ah := e6.1
  have s4 : ah ≤ 100000 := by omega
  have HTK := Aside0.mk htk
  have HAH := Aside0.mk hah
  clear h h1 h2 h3 e1 e2 e3 e4 e5 e6 hk hr hx hn hd r1 r2 hP yf y0 y2 y3 htk hah
  go_enter Try.func33, Try.ntmps33
  go_wp2_with (first
    | (go_at_call 54; refine (St.strike18 (p := some ⟨g, 0, none⟩) (by rw [HD.out]; exact HLL.out) HW.out (S1.out.told18 HES.out)).mono ?_; rintro e w3 ⟨rfl, A3, c3, h3⟩; rw [HD.out] at h3; have S2 := Aside0.mk h3.sw1.drop; clear h3; have z1 : w3.cell? ⟨b, 2, none⟩ = some (.int .i64 tk) := (by obtain ⟨_, _, _, _, z, _⟩ := S2.out.mcells; exact z); have z2 : w3.cell? ⟨b, 3, none⟩ = some (.int .i64 ah) := (by obtain ⟨_, _, _, _, _, z, _⟩ := S2.out.mcells; exact z); have z3 : w3.frozen? ⟨b, 2, none⟩ = false := (by obtain ⟨_, _, _, _, _, _, z⟩ := S2.out.mcells; exact z 2); have z4 : w3.frozen? ⟨b, 3, none⟩ = false := (by obtain ⟨_, _, _, _, _, _, z⟩ := S2.out.mcells; exact z 3))
    | (go_at_call 52; refine HBEG.out.mono ?_; rintro e w2 ⟨g', rfl, h⟩; have S1 := Aside0.mk h; clear h y1))
  go_region
  all_goals
    have S3 : Aside0 (St w0 (w3.setCell ⟨b, 3, none⟩ (.int .i64 (ah + tk))) (MmA b (stkL m.ws l) (some ⟨g', 0, none⟩) tk (ah + tk) :: AgA g' P pv' :: L)) := ⟨S2.out.setAt (fun v => rfl)⟩
    have z5 : (w3.setCell ⟨b, 3, none⟩ (.int .i64 (ah + tk))).cell? ⟨b, 2, none⟩ = some (.int .i64 tk) := (by obtain ⟨_, _, _, _, z, _⟩ := S3.out.mcells; exact z)
    have z6 : (w3.setCell ⟨b, 3, none⟩ (.int .i64 (ah + tk))).frozen? ⟨b, 2, none⟩ = false := (by obtain ⟨_, _, _, _, _, _, z⟩ := S3.out.mcells; exact z 2)
    go_wp2
    go_ret
    have hc : stkL m.ws l = stkL m.ws m.evs := stkL_perm H2.out _
    have h4 : St w0 ((w3.setCell ⟨b, 3, none⟩ (.int .i64 (ah + tk))).setCell ⟨b, 2, none⟩ (.int .i64 0)) (MmA b (stkL m.ws m.evs) (some ⟨g', 0, none⟩) 0 (ah + tk) :: AgA g' P pv' :: L) := by
      have := S3.out.setAt (j := 2) (u := .int .i64 0) (tk' := 0) (fun v => rfl)
      rw [hc] at this
      exact this
    have h5 := St.mem_close (g := g') (m := ⟨stkL m.ws m.evs, xs, 0, ah + tk⟩) R1.out R2.out h4
    refine ⟨rfl, ?_⟩
    have h6 : nextM m xs = ⟨stkL m.ws m.evs, xs, 0, ah + tk⟩ := by unfold nextM; rw [HTK.out, HAH.out]
    rw [h6]
    first | exact h5 | exact h5.then (below_drew (Below.refl _ _)) | exact h5.then (pw_below_drewN (Below.refl _ _) _)
end Go.Proofs.Ytopmikcljekdiaa.Ag
