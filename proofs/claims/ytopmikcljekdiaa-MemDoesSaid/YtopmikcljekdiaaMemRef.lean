/- The reference's memory: what is held, and its small functions. -/
import Derived.Test.YtopmikcljekdiaaMStrike
import Derived.Maps.AppendAt
namespace Go.Proofs.Ytopmikcljekdiaa.Ag
open Go.RowKit Go.Proofs.YtopmikcljekdiaaW.PrintWords Go.Proofs.YtopmikcljekdiaaW.PrintLast Go.Proofs.YtopmikcljekdiaaW.PrintMore Go.Proofs.Ytopmikcljekdiaa.PA Go.Proofs.Ytopmikcljekdiaa.SL
set_option linter.unusedVariables false
set_option maxRecDepth 100000
set_option maxHeartbeats 16000000
/-- The reference's memory at block b: words, events that have not struck, counts. -/
def RmP (b : Nat) (m : MS) (w : World) (F : Nat → Prop) : Prop :=
  (∀ k, F k → k < w.heap.size) ∧ F b ∧ ∃ v u, w.heap[b]? = some (.cells #[v, u, .int .i64 m.tk, .int .i64 m.ah] 91 (0, 0)) ∧ WoR w v m.ws ∧ EvR w u m.evs ∧ (∀ k, own1 v k → F k) ∧ (∀ k, own1 u k → F k)
theorem RmP.move {b : Nat} {m : MS} {w w' : World} {F : Nat → Prop} (h : RmP b m w F) (hm : ∀ k, F k → w'.heap[k]? = w.heap[k]?) : RmP b m w' F := by
  obtain ⟨h1, h2, v, u, h3, h4, h5, h6, h7⟩ := h
  exact ⟨lt_keep h1 hm, h2, v, u, (hm b h2).trans h3, own_move h4 (fun k hk => hm k (h6 k hk)), own_move h5 (fun k hk => hm k (h7 k hk)), h6, h7⟩
def RmA (b : Nat) (m : MS) : Asn := ⟨RmP b m, fun h k hk => h.1 k hk, fun h hm => h.move hm⟩
theorem own1_ne {w : World} {e t size n b : Nat} {v : Value} {xs : List Value} {cs : Array Value} (h : w.ownsRow 0 e size v n xs) (hb : w.heap[b]? = some (.cells cs t (0, 0))) (hne : e ≠ t) : ¬ own1 v b := by
  intro hh
  have := own_ne h hb hne
  unfold own1 at hh
  exact this hh.symm
/-- What stands in its cells. -/
theorem St.rcells {w0 w : World} {L : List Asn} {b : Nat} {m : MS} (h : St w0 w (RmA b m :: L)) :
    ∃ A c B d, w.cell? ⟨b, 0, none⟩ = some (.slice A m.ws.length c) ∧ w.cell? ⟨b, 1, none⟩ = some (.slice B m.evs.length d) ∧ w.cell? ⟨b, 2, none⟩ = some (.int .i64 m.tk) ∧ w.cell? ⟨b, 3, none⟩ = some (.int .i64 m.ah) ∧ (∀ i, w.frozen? ⟨b, i, none⟩ = false) ∧
      ReadsInt w .u64 A m.ws.length m.ws ∧ m.ws.length ≤ c ∧ Kd.C k31 w B m.evs.length m.evs := by
  obtain ⟨F, hA, _, _⟩ := h.one
  obtain ⟨h1, h2, v, u, h3, h4, h5, h6, h7⟩ := hA
  obtain ⟨A, c, rfl, hc, hr⟩ := h4.reads
  obtain ⟨B, d, rfl, hd, hk⟩ := h5.form
  exact ⟨A, c, B, d, cell_of_block h3 0, cell_of_block h3 1, cell_of_block h3 2, cell_of_block h3 3, fun i => by simp [World.frozen?, h3], hr, hc, hk⟩
/-- A count is stored. -/
theorem St.rset {w0 w : World} {L : List Asn} {b j : Nat} {m m' : MS} {x : Value} (h : St w0 w (RmA b m :: L)) (hws : m'.ws = m.ws) (hev : m'.evs = m.evs)
    (hs : ∀ v u : Value, (#[v, u, .int .i64 m.tk, .int .i64 m.ah] : Array Value).setIfInBounds j x = #[v, u, .int .i64 m'.tk, .int .i64 m'.ah]) : St w0 (w.setCell ⟨b, j, none⟩ x) (RmA b m' :: L) := by
  obtain ⟨F, hA, _, hn2⟩ := h.one
  obtain ⟨h1, h2, v, u, h3, h4, h5, h6, h7⟩ := hA
  have hc := Chg.set w b j x h2
  have hcb := Chg.set w b j x (F := (· = b)) rfl
  refine hn2 _ F [_] hc ⟨F, ⟨fun k hk => Nat.lt_of_lt_of_le (h1 k hk) hc.size, h2, v, u, by rw [heap_setCell_same h3, hs], ?_, ?_, h6, h7⟩, fun _ h => h, trivial⟩
  · rw [hws]; exact own_chg h4 hcb (fun k hk e => own1_ne h4 h3 (by decide) (by subst e; exact hk))
  · rw [hev]; exact own_chg h5 hcb (fun k hk e => own1_ne h5 h3 (by decide) (by subst e; exact hk))
/-- A row of words that is held by itself takes the place of its words. -/
theorem St.rput_words {w0 w : World} {L : List Asn} {b : Nat} {m : MS} {v : Value} {ws : List Int} (h : St w0 w (RmA b m :: WoA v ws :: L)) : St w0 (w.setCell ⟨b, 0, none⟩ v) (RmA b { m with ws := ws } :: L) := by
  obtain ⟨F, hA, _, hn2⟩ := h.sep_close.one
  obtain ⟨F1, F2, ⟨h1, h2, v0, u, h3, h4, h5, h6, h7⟩, ⟨k1, k2, k3⟩, hd, hF⟩ := hA
  have hc := Chg.set w b 0 v ((hF b).2 (.inl h2))
  have hcb := Chg.set w b 0 v (F := (· = b)) rfl
  refine hn2 _ F [_] hc ⟨F, ⟨fun k hk => Nat.lt_of_lt_of_le (((hF k).1 hk).elim (h1 k) (k1 k)) hc.size, (hF b).2 (.inl h2), v, u, by rw [heap_setCell_same h3]; rfl, ?_, ?_, fun k hk => (hF k).2 (.inr (k3 k hk)), fun k hk => (hF k).2 (.inl (h7 k hk))⟩, fun _ h => h, trivial⟩
  · exact own_chg k2 hcb (fun k hk e => hd b h2 (k3 b (by subst e; exact hk)))
  · exact own_chg h5 hcb (fun k hk e => own1_ne h5 h3 (by decide) (by subst e; exact hk))
/-- A row of events that is held by itself takes the place of its events. -/
theorem St.rput_evs {w0 w : World} {L : List Asn} {b : Nat} {m : MS} {v : Value} {es : List S31} (h : St w0 w (RmA b m :: EvA v es :: L)) : St w0 (w.setCell ⟨b, 1, none⟩ v) (RmA b { m with evs := es } :: L) := by
  obtain ⟨F, hA, _, hn2⟩ := h.sep_close.one
  obtain ⟨F1, F2, ⟨h1, h2, v0, u, h3, h4, h5, h6, h7⟩, ⟨k1, k2, k3⟩, hd, hF⟩ := hA
  have hc := Chg.set w b 1 v ((hF b).2 (.inl h2))
  have hcb := Chg.set w b 1 v (F := (· = b)) rfl
  refine hn2 _ F [_] hc ⟨F, ⟨fun k hk => Nat.lt_of_lt_of_le (((hF k).1 hk).elim (h1 k) (k1 k)) hc.size, (hF b).2 (.inl h2), v0, v, by rw [heap_setCell_same h3]; rfl, ?_, ?_, fun k hk => (hF k).2 (.inl (h6 k hk)), fun k hk => (hF k).2 (.inr (k3 k hk))⟩, fun _ h => h, trivial⟩
  · exact own_chg h4 hcb (fun k hk e => own1_ne h4 h3 (by decide) (by subst e; exact hk))
  · exact own_chg k2 hcb (fun k hk e => hd b h2 (k3 b (by subst e; exact hk)))
/-- Its words where they lie. -/
theorem St.rword {w0 w : World} {L : List Asn} {b : Nat} {m : MS} (h : St w0 w (RmA b m :: L)) (i : Nat) (hi : i < m.ws.length) :
    ∃ r c, w.cell? ⟨b, 0, none⟩ = some (.slice (some ⟨r, 0, none⟩) m.ws.length c) ∧ w.cell? ⟨r, i, none⟩ = some (.int .u64 (m.ws.getD i 0)) ∧ w.frozen? ⟨r, i, none⟩ = false ∧
      ∀ u : Int, St w0 (w.setCell ⟨r, i, none⟩ (.int .u64 u)) (RmA b (setM m i u) :: L) := by
  obtain ⟨F, hA, _, hn2⟩ := h.one
  obtain ⟨h1, h2, v, u0, h3, h4, h5, h6, h7⟩ := hA
  obtain ⟨A, c, rfl⟩ := own_slice h4
  obtain ⟨r, rfl, hc, hf⟩ := WoR.at h4 rfl i hi
  refine ⟨r, c, cell_of_block h3 0, hc, hf, fun u => ?_⟩
  have hq : F r := h6 r rfl
  have hqb : r ≠ b := fun e => own1_ne h4 h3 (by decide) (by subst e; rfl)
  have hch := Chg.set w r i (.int .u64 u) hq
  have hcr := Chg.set w r i (.int .u64 u) (F := (· = r)) rfl
  have h5' : w.ownsRow 0 29 1 (.slice (some ⟨r, 0, none⟩) m.ws.length c) m.ws.length (nums .u64 m.ws) := h4
  have hset : (nums .u64 m.ws).set i (.int .u64 u) = nums .u64 (m.ws.set i u) := by unfold nums; rw [List.map_set]
  refine hn2 _ F [_] hch ⟨F, ⟨fun k hk => Nat.lt_of_lt_of_le (h1 k hk) hch.size, h2, .slice (some ⟨r, 0, none⟩) m.ws.length c, u0, (heap_set_far _ _ _ _ _ (Ne.symm hqb)).trans h3, ?_, ?_, h6, h7⟩, fun _ h => h, trivial⟩
  · unfold WoR
    simp only [setM, Int.toNat_natCast]
    rw [List.length_set, ← hset]
    exact own_set h5' _
  · refine own_chg h5 hcr (fun k hk e => ?_)
    subst e
    have := ne_types h5 h4 (by decide) k
    exact this hk rfl
theorem rticks_calls {w0 w : World} {L : List Asn} {b : Nat} {m : MS} {t : Int} (h : St w0 w (RmA b m :: L)) (ht : m.tk = t) : Calls Try.prog 45 #[.pointer (some ⟨b, 0, none⟩)] w fun e w' => e = .returned (.int .i64 t) ∧ w' = w := by
  obtain ⟨A, c, B, d, c0, c1, c2, c3, _⟩ := h.rcells
  rw [ht] at c2
  clear h ht c0 c1 c3
  go_enter Try.func45, Try.ntmps45
  go_wp2
  go_ret
  exact ⟨rfl, rfl⟩
theorem rall_calls {w0 w : World} {L : List Asn} {b k : Nat} {m : MS} {t : Int} (h : St w0 w (RmA b m :: L)) (hk : OkM m k) (hk2 : k ≤ 100000) (ht : m.ah + m.tk = t) : Calls Try.prog 46 #[.pointer (some ⟨b, 0, none⟩)] w fun e w' => e = .returned (.int .i64 t) ∧ St w0 w' (RmA b m :: L) := by
  obtain ⟨A, c, B, d, c0, c1, c2, c3, _⟩ := h.rcells
  have h1 := hk.tkb
  have h2 := hk.ahb
  have S := Aside0.mk h
  obtain ⟨x, hx⟩ : ∃ x, m.tk = x := ⟨_, rfl⟩
  obtain ⟨y, hy⟩ : ∃ y, m.ah = y := ⟨_, rfl⟩
  rw [hx, hy] at ht
  rw [hx] at c2 h1 h2
  rw [hy] at c3 h2
  have e1 : 0 ≤ x := h1.1
  have e2 : x ≤ 100000 := by omega
  have e3 : 0 ≤ y := h2.1
  have e4 : y ≤ 100000 := by omega
  subst ht
  clear h hk hk2 c0 c1 h1 h2 hx hy
  go_enter Try.func46, Try.ntmps46
  go_wp2
  repeat (go_quiet (fail); try go_wp2)
  go_ret
  exact ⟨rfl, S.out.then (pw_below_drewN (Below.refl _ _) _)⟩
theorem app_words {w0 w w1 : World} {L : List Asn} {v1 : Value} {ws : List Int} (h : St w0 w L) (hown : w1.ownsRow 0 29 1 v1 ([] ++ ws).length (nums .u64 ([] ++ ws))) (hg : w.grownBy w1 none) (hat : v1.ownBlock = none ∨ ∃ b, v1.ownBlock = some b ∧ w.heap.size ≤ b) :
    ∃ A c, v1 = .slice A ws.length c ∧ St w0 w1 (WoA (.slice A ws.length c) ws :: L) := by
  rw [List.nil_append] at hown
  obtain ⟨A, c, rfl⟩ := own_slice hown
  have hge : ∀ k, own1 (.slice A ws.length c) k → w.heap.size ≤ k := fun k hk => by
    unfold own1 at hk
    rcases hat with h1 | ⟨b, h1, h2⟩
    · rw [h1] at hk; cases hk
    · rw [h1] at hk; cases hk; omega
  exact ⟨A, c, rfl, h.add (F' := own1 (.slice A ws.length c)) ⟨hg.os, hg.tape, hg.output, hg.size, fun k hk _ => hg.block k hk (fun e => by cases e), fun k hk => .inr (hge k hk)⟩ ⟨fun k hk => own1_lt hown k hk, hown, fun _ h => h⟩⟩
theorem rwords_calls {w0 w : World} {L : List Asn} {b n : Nat} {m : MS} {ws : List Int} (h : St w0 w (RmA b m :: L)) (hw : m.ws = ws) (hn : ws.length = n) (hl : n ≤ 100000) :
    Calls Try.prog 47 #[.pointer (some ⟨b, 0, none⟩)] w fun e w' => ∃ A c, e = .returned (.slice A n c) ∧ St w0 w' (WoA (.slice A n c) ws :: RmA b m :: L) := by
  obtain ⟨A, c, B, d, c0, c1, c2, c3, _, hr, hc, _⟩ := h.rcells
  rw [hw] at c0 hr hc
  rw [hn] at c0 hr hc
  have S := Aside0.mk h
  have HR := Aside0.mk hr
  have HN := Aside0.mk hn
  have HO : Aside0 (w.ownsRow 0 29 1 (.slice none 0 0) ([] : List Int).length (nums .u64 [])) := ⟨own_nil _ _ _ _⟩
  have HB : Aside0 ((([] : List Int).length + n) * 8 ≤ 140737488355328) := ⟨by simp; omega⟩
  clear h hw hn hr hc c1 c2 c3
  go_enter Try.func47, Try.ntmps47
  go_wp2_with (at_builtin; refine print_append_row (w0 := w) 0 rfl (.const (.slice none 0 0)) (.tmp 8) 62 29 .u64 8 rfl Try.underlying62 info29 (by decide) _ [] ws A n c rfl rfl HO.out HR.out (Below.refl _ _) (Nat.zero_le _) HB.out ?_; intro v1 w1 hown hb1 hg1 hat1; have OW := Aside0.mk hown; have GR := Aside0.mk hg1; have AT := Aside0.mk hat1; clear hown hb1 hg1 hat1)
  go_ret
  obtain ⟨A', c', hv, hst⟩ := app_words S.out OW.out GR.out AT.out
  rw [HN.out] at hv hst
  exact ⟨A', c', congrArg Ending.returned hv, hst⟩
end Go.Proofs.Ytopmikcljekdiaa.Ag
