/- A memory: New, Words; rows of words that are the same. -/
import Derived.Test.YtopmikcljekdiaaMemG
import Derived.WalkSpells
import Derived.Outline
namespace Go.Proofs.Ytopmikcljekdiaa.Ag
open Go.RowKit Go.Proofs.YtopmikcljekdiaaW.PrintWords Go.Proofs.YtopmikcljekdiaaW.PrintLast Go.Proofs.YtopmikcljekdiaaW.PrintMore Go.Proofs.Ytopmikcljekdiaa.PA Go.Proofs.Ytopmikcljekdiaa.SL
set_option linter.unusedVariables false
set_option maxRecDepth 100000
set_option maxHeartbeats 8000000
theorem same_words {w : World} {A B : Option Addr} {n c d : Nat} {ws : List Int} (h1 : ReadsInt w .u64 A n ws) (h2 : ReadsInt w .u64 B n ws) (hn : n ≤ 100000) :
    Calls Try.prog 38 #[.slice A n c, .slice B n d] w fun e w' => e = .returned (.bool true) ∧ Drawn0 w w' := by
  have H1 := Aside0.mk h1
  have H2 := Aside0.mk h2
  clear h1 h2
  go_enter Try.func38, Try.ntmps38
  go_wp2
  go_loopw [13] (fun v13 wr => ∃ (k : Nat), v13 = .int .i64 k ∧ Aside0 (k ≤ n) ∧ Aside0 (Drawn0 w wr)) (fun v13 _ => n - (intOf v13).toNat)
  case atStart => exact ⟨0, rfl, ⟨Nat.zero_le _⟩, ⟨Drawn0.refl _⟩⟩
  case round =>
    obtain ⟨k, rfl, HK, ⟨⟨nd, rfl⟩⟩⟩ := hrel
    by_cases hk : k < n
    · obtain ⟨a1, e1, x1⟩ := H1.out.at_ (k : Int) (by omega) (by omega)
      obtain ⟨a2, e2, x2⟩ := H2.out.at_ (k : Int) (by omega) (by omega)
      rw [Int.toNat_natCast] at x1 x2
      subst e1 e2
      generalize rd ws (k : Int) = u at x1 x2
      go_wp2
      repeat (go_quiet (fail); try go_wp2)
      go_roundw
      case rel => exact ⟨k + 1, by go_num, ⟨hk⟩, ⟨by repeat (first | exact Drawn0.refl _ | exact ⟨_, rfl⟩ | apply Drawn0.step)⟩⟩
      case measure => simp [intOf]; omega
    · go_wp2
      go_ret
      exact ⟨rfl, ⟨_, rfl⟩⟩
theorem St.sameW {w0 w : World} {L L' : List Asn} {A B : Option Addr} {n c d : Nat} {ws : List Int} (h : St w0 w (WoA (.slice A n c) ws :: L)) (h2 : St w0 w (WoA (.slice B n d) ws :: L')) (hn : ws.length = n) (hl : n ≤ 100000) :
    Calls Try.prog 38 #[.slice A n c, .slice B n d] w fun e w' => e = .returned (.bool true) ∧ St w0 w' (WoA (.slice A n c) ws :: L) := by
  refine (same_words (h.wread hn).2 (h2.wread hn).2 hl).mono ?_
  rintro e w' ⟨rfl, hd⟩
  exact ⟨rfl, h.drawn0 hd⟩
theorem wo_nil {w : World} : WoR w (.slice none 0 0) [] := own_nil _ _ _ _
theorem St.wnil {w0 w : World} {L : List Asn} (h : St w0 w L) : St w0 w (WoA (.slice none 0 0) [] :: L) :=
  h.add (F' := NoF) (Chg.refl w NoF) ⟨fun k hk => hk.elim, wo_nil, fun k hk => by simp [own1, Value.ownBlock] at hk⟩
/-- A copy of a row that is read, as new memory. -/
theorem clone_held {w0 w w1 : World} {L : List Asn} {B : Obj} {v1 : Value} {ws : List Int} (h : St w0 w L) (hown : w1.ownsRow 0 29 1 v1 ws.length (nums .u64 ws)) (hg : (w.alloc B).grownBy w1 (some w.heap.size)) (hat : v1.ownBlock = some w.heap.size ∨ ∃ b, v1.ownBlock = some b ∧ (w.alloc B).heap.size ≤ b) :
    ∃ A c, v1 = .slice A ws.length c ∧ St w0 w1 (WoA (.slice A ws.length c) ws :: L) := by
  obtain ⟨A, c, rfl⟩ := own_slice hown
  have hs : (w.alloc B).heap.size = w.heap.size + 1 := by simp
  have hge : ∀ k, own1 (.slice A ws.length c) k → w.heap.size ≤ k := fun k hk => by
    unfold own1 at hk
    rcases hat with h1 | ⟨b, h1, h2⟩
    · rw [h1] at hk; cases hk; exact Nat.le_refl _
    · rw [h1] at hk; cases hk; omega
  refine ⟨A, c, rfl, h.add (F' := own1 (.slice A ws.length c)) ⟨hg.os, hg.tape, hg.output, by have := hg.size; omega, fun k hk _ => ?_, fun k hk => .inr (hge k hk)⟩ ⟨fun k hk => own1_lt hown k hk, hown, fun _ h => h⟩⟩
  rw [hg.block k (by omega) (fun e => by cases e; omega)]
  exact Below.heap_alloc w B k hk
theorem St.clone {w0 w : World} {L : List Asn} {r : Addr} {n c : Nat} {ws : List Int} (h : St w0 w L) (hr : ReadsInt w .u64 (some r) n ws) (hn : n ≤ 100000) :
    Calls Try.prog 55 #[.slice (some r) n c] w fun e w' => ∃ A c', e = .returned (.slice A n c') ∧ St w0 w' (WoA (.slice A n c') ws :: L) := by
  obtain ⟨B, hB⟩ : ∃ B : Obj, B = .cells #[] 29 := ⟨_, rfl⟩
  have HST := Aside0.mk h
  have HO : Aside0 ((w.alloc B).ownsRow 0 29 1 (.slice (some ⟨w.heap.size, 0, none⟩) 0 0) ([] : List Int).length (nums .u64 [])) := ⟨by rw [hB]; exact own_lit w 0 29 .u64 [] (Nat.zero_le _) (by simp)⟩
  have HR : Aside0 (ReadsInt (w.alloc B) .u64 (some r) n ws) := ⟨hr.below (below_alloc (Below.refl _ _) B)⟩
  have HL : Aside0 (ws.length = n) := ⟨hr.1⟩
  have HSZ : Aside0 ((w.alloc B).heap.size = w.heap.size + 1) := ⟨by simp⟩
  have HN : Aside0 ((([] : List Int).length + n) * 8 ≤ 140737488355328) := ⟨by simp; omega⟩
  clear h hr
  subst hB
  have hne := fun (w : World) (A : Option Addr) (n c : Nat) => Lib.run_eql_slice_nil (P := Try.prog) w 62 29 A n c 0 0 Try.underlying62
  go_enter Try.func55, Try.ntmps55
  go_wp2_with (at_builtin; refine print_append_row (w0 := w.alloc (.cells #[] 29)) 0 rfl (.tmp 5) (.tmp 6) 62 29 .u64 8 rfl Try.underlying62 info29 (by decide) _ [] ws (some r) n c rfl rfl HO.out HR.out (Below.refl _ _) (Nat.zero_le _) HN.out ?_; intro v1 w1 hown hb1 hg1 hat1; have OW := Aside0.mk hown; have GR := Aside0.mk hg1; have AT := Aside0.mk hat1; clear hown hb1 hg1 hat1)
  go_ret
  obtain ⟨A, c', hv, hst⟩ := clone_held HST.out OW.out GR.out AT.out
  rw [List.nil_append] at hst
  rw [List.nil_append] at hv
  rw [HL.out] at hv hst
  exact ⟨A, c', congrArg Ending.returned hv, hst⟩
theorem St.clone0 {w0 w : World} {L : List Asn} (h : St w0 w L) :
    Calls Try.prog 55 #[.slice none 0 0] w fun e w' => e = .returned (.slice none 0 0) ∧ St w0 w' (WoA (.slice none 0 0) [] :: L) := by
  have HS := Aside0.mk h.wnil
  clear h
  have hne := fun (w : World) (A : Option Addr) (n c : Nat) => Lib.run_eql_slice_nil (P := Try.prog) w 62 29 A n c 0 0 Try.underlying62
  go_enter Try.func55, Try.ntmps55
  go_wp2
  go_ret
  exact ⟨rfl, HS.out⟩
/-- Words: a copy. -/
theorem St.words0 {w0 w : World} {L : List Asn} {b : Nat} {ws : List Int} {q : Option Addr} {tk ah : Int} (h : St w0 w (MmA b ws q tk ah :: L)) (hw : ws.length ≤ 100000) :
    Calls Try.prog 39 #[.pointer (some ⟨b, 0, none⟩)] w fun e w' => ∃ A c, e = .returned (.slice A ws.length c) ∧ St w0 w' (WoA (.slice A ws.length c) ws :: MmA b ws q tk ah :: L) := by
  obtain ⟨F, hA, _, _⟩ := h.one
  obtain ⟨h1, h2, v, h3, h4, h5, h6⟩ := hA
  have hc0 : w.cell? ⟨b, 0, none⟩ = some v := cell_of_block h3 0
  have HS := Aside0.mk h
  have hcase := h5.2
  obtain ⟨A, c, rfl, hc, hr⟩ := h5.reads
  obtain ⟨n, hn⟩ : ∃ n, ws.length = n := ⟨_, rfl⟩
  rw [hn] at hc0 hr hw hcase
  rw [hn]
  rcases hcase with ⟨hv, hx⟩ | ⟨r, cap, cur, hv, _⟩
  · injection hv with e1 e2 e3
    subst e1 e2 e3
    have hws : ws = [] := List.eq_nil_of_length_eq_zero hn
    subst hws
    clear h h1 h2 h3 h4 h5 h6 hr hc hn hx
    go_enter Try.func39, Try.ntmps39
    go_wp2_with (go_at_call 55; refine (St.clone0 HS.out).mono ?_; rintro e w1 ⟨rfl, h⟩; have S1 := Aside0.mk h; clear h)
    go_ret
    exact ⟨none, 0, rfl, S1.out⟩
  · injection hv with e1 e2 e3
    subst e1
    have HR := Aside0.mk hr
    have HW := Aside0.mk hw
    clear h h1 h2 h3 h4 h5 h6 hr hc hn hw e2 e3
    go_enter Try.func39, Try.ntmps39
    go_wp2_with (go_at_call 55; refine (St.clone HS.out HR.out HW.out).mono ?_; rintro e w1 ⟨A1, c1, rfl, h⟩; have S1 := Aside0.mk h; clear h)
    go_ret
    exact ⟨A1, c1, rfl, S1.out⟩
/-- The first one is put behind the next two. -/
theorem St.sw2_ {w0 w : World} {A B C : Asn} {L : List Asn} (h : St w0 w (A :: B :: C :: L)) : St w0 w (B :: C :: A :: L) := h.perm ((List.Perm.swap _ _ _).trans ((List.Perm.swap _ _ _).cons _))
theorem St.words {w0 w : World} {L : List Asn} {b k : Nat} {m : MS} (h : St w0 w (MemA b m :: L)) (hk : OkM m k) :
    Calls Try.prog 39 #[.pointer (some ⟨b, 0, none⟩)] w fun e w' => ∃ A c, e = .returned (.slice A m.ws.length c) ∧ St w0 w' (WoA (.slice A m.ws.length c) m.ws :: MemA b m :: L) := by
  obtain ⟨g, es, pv, l, h1, h2, h3⟩ := h.mem_open
  have := hk.wb
  refine (h3.words0 (by omega)).mono ?_
  rintro e w' ⟨A, c, rfl, h4⟩
  exact ⟨A, c, rfl, (St.mem_close h1 h2 (h4.sw2_ )).sw1⟩
theorem St.nextFull {w0 w : World} {L : List Asn} {b k : Nat} {m : MS} {A : Option Addr} {n c : Nat} (h : St w0 w (MemA b m :: L)) (hn : 1024 < n) :
    Calls Try.prog 33 #[.pointer (some ⟨b, 0, none⟩), .slice A n c] w fun e w' => e = .returned (.int .i64 1) ∧ w' = w := by
  obtain ⟨g, es, pv, l, h1, h2, h3⟩ := h.mem_open
  obtain ⟨A2, c2, y0, y1, y2, y3, yf⟩ := h3.mcells
  have HB := Aside0.mk (St.beginFull (b := b) (A := A) (c := c) h hn)
  clear h hn h3 yf y0 y2 y3 h1 h2
  go_enter Try.func33, Try.ntmps33
  go_wp2_with (go_at_call 52; refine HB.out.mono ?_; rintro e w2 ⟨rfl, hw⟩; obtain rfl := hw.symm)
  go_ret
  exact ⟨rfl, rfl⟩
end Go.Proofs.Ytopmikcljekdiaa.Ag
