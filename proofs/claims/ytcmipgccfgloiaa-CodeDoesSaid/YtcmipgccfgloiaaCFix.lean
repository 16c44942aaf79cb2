/- code.Fix, by what it tells. -/
import Derived.Test.YtcmipgccfgloiaaCFixV
import Derived.Outline
namespace Go.Proofs.Ytcmipgccfgloiaa.Cd
open Go.RowKit Go.Proofs.YtcmipgccfgloiaaW.PrintWords Go.Proofs.YtcmipgccfgloiaaW.PrintLast Go.Proofs.YtcmipgccfgloiaaW.PrintMore Go.Proofs.Ytcmipgccfgloiaa.PC Go.Proofs.Ytcmipgccfgloiaa.Given
set_option linter.unusedVariables false
set_option linter.unusedSimpArgs false
set_option maxRecDepth 100000
set_option maxHeartbeats 8000000
theorem R_append' {P : Program} {ops : Array Oper} {o : Oper} {rest : List Oper} {a : Act} {Q : Exit → Act → World → Prop} {α : Type} (d : Kd α) {w0 W : World} (base : Nat) (hgd : o.guard = none) (s x : Operand) (t e : TypeId) (z : Value) (bytes : Nat)
    (ho : o.op = .call { callee := .builtin .append, args := #[s, x], argTypes := #[t, t] })
    (ht : P.underlying t = some (.slice e)) (hinfo : (P.info? e).map (fun i => (i.zero, i.size, i.bytes)) = some (some z, d.sz, bytes)) (hz : z.cells.size = d.sz) (hs0 : 0 < d.sz) (hb0 : 0 < bytes)
    (v : Value) (xs : List α) (p : α) (cs : List Value) (ok okp : Nat → Prop) (B : Nat) (hs : a.eval s = v) (hx : a.eval x = .slice (some ⟨B, 0, none⟩) 1 1) (hB : B = W.heap.size) (hp : d.M W base okp p cs) (hokp : ∀ k, okp k → ok k ∧ some k ≠ v.ownBlock) (hfresh : ∀ k, W.heap.size ≤ k → ok k)
    (HO : d.R e W base ok v xs) (HB : Below base w0 W) (hbase : base ≤ W.heap.size) (hl : (xs.length + 1) * bytes ≤ 140737488355328)
    (h : ∀ v1 w1, d.R e w1 base ok v1 (xs ++ [p]) → Below base w0 w1 → W.grownBy w1 v.ownBlock → (v1.ownBlock = v.ownBlock ∨ ∃ b, v1.ownBlock = some b ∧ W.heap.size ≤ b) → wpList P ops Q rest (a.put o.dst v1) w1) :
    wpList P ops Q (o :: rest) a (W.alloc (.cells cs.toArray e)) := by
  subst hB
  exact Kd.R_append d base hgd s x t e z bytes ho ht hinfo hz hs0 hb0 v xs p cs ok okp hs hx hp hokp hfresh HO HB hbase hl h
theorem Fix_calls {p : Int} {n c : Nat} {A : Option Addr} {l : List Int} {w : World} (hl : ∀ a ∈ l, U64 a) (hr : ReadsInt w .u64 A n l) (hc : n ≤ c) : Calls Try.prog 32 #[.int .u64 p, .slice A n c] w (FixPost w (fixV p l)) := by
  have hL : l.length = n := hr.1
  have hM : n ≤ 9223372036854775807 := hr.2.1
  by_cases hk : Kn p
  · by_cases h0 : n < 7 ∨ 4102 < n
    · have HV : Aside0 (fixV p l = ([], [], 6)) := ⟨by unfold fixV; rw [if_pos hk, if_pos (by omega)]⟩
      have HP := Aside0.mk (parts_len (c := c) (A := A) hk hM h0)
      clear hl hr hc hk hL hM h0
      go_enter Try.func32, Try.ntmps32
      go_wp2_with (go_at_call 47; refine (HP.out _).mono ?_; rintro e w2 ⟨rfl, ⟨nd, rfl⟩⟩)
      go_ret3
      exact FixPost.nil HV.out (by (repeat (first | exact Below.refl _ _ | apply below_alloc | apply pw_below_drewN | refine Below.setCell ?_ (by first | omega | (simp; done) | (simp; omega)) _)))
    · obtain ⟨m, rfl⟩ : ∃ m, n = m + 6 := ⟨n - 6, by omega⟩
      obtain ⟨N, hN⟩ : ∃ N, m + 6 = N := ⟨_, rfl⟩
      obtain ⟨A', hp, hrd⟩ := parts_yes (A := A) hk hL rfl (by omega) (by omega) hc
      obtain ⟨hrx, hrt⟩ := hrd w hr
      obtain ⟨x, hx⟩ : ∃ x, l.take m = x := ⟨_, rfl⟩
      obtain ⟨t, ht⟩ : ∃ t, l.drop m = t := ⟨_, rfl⟩
      have hV : fixV p l = fixM p x (cellsF t) := by
        unfold fixV
        rw [if_pos hk, if_neg (by omega), hL, Nat.add_sub_cancel, hx, ht]
      have hux : ∀ a ∈ x, U64 a := fun a ha => hl a (List.mem_of_mem_take (hx ▸ ha))
      have hut : ∀ a ∈ t, U64 a := fun a ha => hl a (List.mem_of_mem_drop (ht ▸ ha))
      rw [hx] at hrx
      rw [ht] at hrt
      rw [hV]
      have HP := Aside0.mk hp
      rw [hN] at HP ⊢
      have HC : Aside0 (∀ w1, Below w.heap.size w w1 → Calls Try.prog 18 #[.slice A' 6 (c - m)] w1 fun e w' => ∃ v0 v1 : Value, e = .returned (.tuple #[v0, v1, .int .i64 (cellsF t).2.2]) ∧ Kd.R (Kd.int .u64) 22 w' w1.heap.size (fun _ => True) v0 (cellsF t).1 ∧ Kd.R k35 35 w' w1.heap.size (fun _ => True) v1 (cellsF t).2.1 ∧ Below w1.heap.size w1 w') := ⟨fun w1 hb => cells_calls (hrt.below hb) (by omega)⟩
      by_cases he : (cellsF t).2.2 = 0
      · obtain ⟨a, b, fs, hcf, hat, hbt, hfs, hfl⟩ := cellsF_ok hrt.1 he
        have HC : Aside0 (∀ w1, Below w.heap.size w w1 → Calls Try.prog 18 #[.slice A' 6 (c - m)] w1 (CellsPost w1 a b fs)) := ⟨fun w1 hb => cells_ok (hrt.below hb) (by omega) hcf⟩
        have hat2 : ∀ (ad : Addr) (c1 : Nat) (w : World), (Instr.arrayAt 67 (.slice (some ad) 2 c1)).run Try.prog w = .ok (.pointer (some ad)) w := fun ad c1 w => run_arrayAt w 67 _ 2 _ _ _ Try.underlying67 (Nat.le_refl 2)
        rw [hcf]
        have hua := hut a hat
        have hub := hut b hbt
        have HI : Aside0 (∀ w1 A1 c1, ReadsInt w1 .u64 A1 2 [a, b] → 2 ≤ c1 → Calls Try.prog 38 #[.int .u64 p, .slice A1 2 c1] w1 fun e w' => e = .returned (.bool (inV p [a, b])) ∧ Drawn0 w1 w') := ⟨fun w1 A1 c1 h hc => in_calls h hc (by decide)⟩
        by_cases hin : inV p [a, b] = true
        · have hbd := @wrongV_bd p a b x hk
          have HW : Aside0 (∀ w1, Below w.heap.size w w1 → Calls Try.prog 48 #[.int .u64 p, .slice A m c, .agg #[.int .u64 a, .int .u64 b]] w1 fun e w' => e = .returned (.tuple #[.int .i64 (wrongV p x a b).1, .int .u64 (wrongV p x a b).2.1, .int .i64 (wrongV p x a b).2.2]) ∧ Below w1.heap.size w1 w') :=
            ⟨fun w1 hb => wrong_calls hk hux hua hub (hrx.below hb) (by omega) (by omega) (by omega)⟩
          have HH : Aside0 (∀ w1, Below w.heap.size w w1 → Calls Try.prog 46 #[.slice A m c, .agg #[.int .u64 a, .int .u64 b]] w1 fun e w' => ∃ v0_ : Value, e = .returned (.tuple #[v0_, .int .i64 0]) ∧ Kd.R (Kd.int .u64) 22 w' w1.heap.size (fun _ => True) v0_ (wholeV x a b) ∧ Below w1.heap.size w1 w') :=
            ⟨fun w1 hb => whole_calls (hrx.below hb) (by omega)⟩
          have hfm : fixM p x ([a, b], fs, 0) = if (wrongV p x a b).2.2 > 1 then ([], [], 10)
              else if (wrongV p x a b).2.2 = 1 then ((wholeV x a b).set (wrongV p x a b).1.toNat (wrongV p x a b).2.1, ⟨(wrongV p x a b).1, rd x (wrongV p x a b).1, (wrongV p x a b).2.1⟩ :: fs.map (fun f => ⟨wrap64 (f.f0 + (x.length : Int)), f.f1, f.f2⟩), 0)
              else (wholeV x a b, fs.map (fun f => ⟨wrap64 (f.f0 + (x.length : Int)), f.f1, f.f2⟩), 0) := by
            unfold fixM
            rw [if_neg (by simp), if_neg (by simp [hin])]
            rfl
          rw [hin] at HI
          have hxl : x.length = m := hrx.1
          generalize wrongV p x a b = r at *
          obtain ⟨T, G, M⟩ := r
          simp only at hbd hfm HW
          by_cases hM2 : M > 1
          · rw [if_pos hM2] at hfm
            have HV := Aside0.mk hfm
            have e2 : decide (M > 1) = true := decide_eq_true hM2
            clear hl hr hc hk hL hM h0 hV hN hp hrx hrt hux hut hx ht hrd he hcf hua hub hat hbt hfs hfl hin hbd hfm hM2
            go_enter Try.func32, Try.ntmps32
            go_wp2_with (first
              | (go_at_call 47; refine (HP.out _).mono ?_; rintro e w2 ⟨rfl, ⟨nd, rfl⟩⟩)
              | (go_at_call 18; refine (HC.out _ (by (repeat (first | exact Below.refl _ _ | apply below_alloc | apply pw_below_drewN | refine Below.setCell ?_ (by first | omega | (simp; done) | (simp; omega)) _)))).mono ?_; rintro e w3 ⟨ad, c1, v1, rfl, hl1, hrd1, q0, q1, hv1, hb3⟩; have HB3 := Aside0.mk (below_then (n := w.heap.size) (w := w) hb3 (by simp) (by (repeat (first | exact Below.refl _ _ | apply below_alloc | apply pw_below_drewN | refine Below.setCell ?_ (by first | omega | (simp; done) | (simp; omega)) _)))); have HRD := Aside0.mk hrd1; have HL1 := Aside0.mk hl1; have HV1 := Aside0.mk hv1; clear hv1 hb3 hl1 hrd1)
              | (go_at_call 38; refine (HI.out _ _ _ HRD.out HL1.out).mono ?_; rintro e w4 ⟨rfl, ⟨nd4, rfl⟩⟩)
              | (go_at_call 48; refine (HW.out _ (by repeat (first | exact HB3.out | apply pw_below_drewN))).mono ?_; rintro e w5 ⟨rfl, hb5⟩; have HB5 := Aside0.mk (below_then (n := w.heap.size) (w := w) hb5 (by simpa using HB3.out.size) (by repeat (first | exact HB3.out | apply pw_below_drewN))); have q0' : w5.cell? ad = some (.int .u64 a) := below_cell hb5 (World.block_lt_of_cell? w3 _ q0) q0; have q1' : w5.cell? ⟨ad.block, ad.off + 1, none⟩ = some (.int .u64 b) := below_cell hb5 (World.block_lt_of_cell? w3 _ q1) q1; have HV15 := Aside0.mk (Kd.R_below (Kd.R_drewN HV1.out _) hb5); clear hb5))
            go_ret3
            exact FixPost.nil HV.out HB5.out
          · rw [if_neg hM2] at hfm
            have e2 : decide (M > 1) = false := decide_eq_false hM2
            by_cases hM1 : M = 1
            · subst hM1
              rw [if_pos rfl] at hfm
              have hT : 0 ≤ T ∧ T < x.length := by rcases hbd with h | h | h <;> omega
              obtain ⟨T, rfl⟩ := Int.eq_ofNat_of_zero_le hT.1
              rw [Int.toNat_natCast] at hfm
              have htm : T < m := by omega
              obtain ⟨ax, rfl, hx0⟩ := hrx.at_ (T : Int) (by omega) (by omega)
              have HX6 : Aside0 (∀ w1, Below w.heap.size w w1 → w1.cell? (ax.add T) = some (.int .u64 (rd x T))) := ⟨fun w1 hb => by
                obtain ⟨ax', e, hx1⟩ := (hrx.below hb).at_ (T : Int) (by omega) (by omega)
                injection e with e
                subst e
                rwa [Int.toNat_natCast] at hx1⟩
              have hto : T < (wholeV x a b).length := by unfold wholeV; simp; omega
              generalize wholeV x a b = o at *
              generalize rd x (T : Int) = xT at *
              have HV := Aside0.mk hfm
              clear hl hr hc hk hL hM h0 hV hN hp hrx hrt hux hut hx ht hrd he hcf hua hub hat hbt hfs hin hbd hfm hM2 hT hx0
              go_enter Try.func32, Try.ntmps32
              go_wp2_with (first
                | (go_at_call 47; refine (HP.out _).mono ?_; rintro e w2 ⟨rfl, ⟨nd, rfl⟩⟩)
                | (go_at_call 18; refine (HC.out _ (by (repeat (first | exact Below.refl _ _ | apply below_alloc | apply pw_below_drewN | refine Below.setCell ?_ (by first | omega | (simp; done) | (simp; omega)) _)))).mono ?_; rintro e w3 ⟨ad, c1, v1, rfl, hl1, hrd1, q0, q1, hv1, hb3⟩; have HB3 := Aside0.mk (below_then (n := w.heap.size) (w := w) hb3 (by simp) (by (repeat (first | exact Below.refl _ _ | apply below_alloc | apply pw_below_drewN | refine Below.setCell ?_ (by first | omega | (simp; done) | (simp; omega)) _)))); have HRD := Aside0.mk hrd1; have HL1 := Aside0.mk hl1; have HV1 := Aside0.mk hv1; clear hv1 hb3 hl1 hrd1)
                | (go_at_call 38; refine (HI.out _ _ _ HRD.out HL1.out).mono ?_; rintro e w4 ⟨rfl, ⟨nd4, rfl⟩⟩)
                | (go_at_call 48; refine (HW.out _ (by repeat (first | exact HB3.out | apply pw_below_drewN))).mono ?_; rintro e w5 ⟨rfl, hb5⟩; have HB5 := Aside0.mk (below_then (n := w.heap.size) (w := w) hb5 (by simpa using HB3.out.size) (by repeat (first | exact HB3.out | apply pw_below_drewN))); have q0' : w5.cell? ad = some (.int .u64 a) := below_cell hb5 (World.block_lt_of_cell? w3 _ q0) q0; have q1' : w5.cell? ⟨ad.block, ad.off + 1, none⟩ = some (.int .u64 b) := below_cell hb5 (World.block_lt_of_cell? w3 _ q1) q1; have HV15 := Aside0.mk (Kd.R_below (Kd.R_drewN HV1.out _) hb5); clear hb5)
                | (go_at_call 46; refine (HH.out _ HB5.out).mono ?_; rintro e w6 ⟨v2, rfl, hv2, hb6⟩; obtain ⟨g2, cp2, rfl, hgb, hgl, cl2, hg2⟩ := Kd.R_form hv2 (by omega); have HV2 := Aside0.mk hv2; have HGL := Aside0.mk hgl; have HGB := Aside0.mk hgb; have x6 := HX6.out w6 (below_then hb6 HB5.out.size HB5.out); have HB6 := Aside0.mk (below_then hb6 HB5.out.size HB5.out); obtain ⟨A2, c2, rfl, hl2, hC2⟩ := Kd.R_reads HV15.out; have HC2 := Aside0.mk hC2; have H56 := Aside0.mk hb6.size; have HBW56 := Aside0.mk hb6; clear hv2 hb6 hl2 hC2 hg2 hgb hgl)
                | ((with_reducible refine gate_builtin (b := .append) (xs := #[.tmp 67, .tmp 75]) rfl ?_); at_builtin; refine R_append' k35 (w0 := w6) w6.heap.size rfl (.tmp 67) (.tmp 75) 30 35 (.agg #[(.int .i64 0), (.int .u64 0), (.int .u64 0)]) 24 rfl Try.underlying30 info35 rfl (by decide) (by omega) (.slice none 0 0) [] (⟨(T : Int), xT, G⟩ : S35) [.int .i64 (T : Int), .int .u64 xT, .int .u64 G] (fun _ => True) (fun _ => False) _ rfl rfl rfl (k35_mkM _ _ _ (⟨(T : Int), xT, G⟩ : S35)) (fun _ hk => hk.elim) (fun _ _ => trivial) (Kd.R_nil _ _ _ _ _) (Below.refl _ _) (Nat.le_refl _) (by simp) ?_; intro v7 w7 ho7 hb7 hg7 hat7; have HO7 := Aside0.mk ho7; have HB7 := Aside0.mk hb7; have HV7 := Aside0.mk (Kd.R_below HV2.out hb7); obtain ⟨hx15, hf15⟩ := Kd.R_celln 0 HV7.out (T : Int) (by omega) (by omega); rw [Int.toNat_natCast] at hx15 hf15; clear ho7 hb7 hg7 hat7)
                | ((with_reducible refine gate_store (t := 22) (p := 80) rfl ?_); refine store_event (t := 22) (p := 80) (v := ?vo) (w1 := w7.setCell ⟨g2, T, none⟩ (.int .u64 G)) ?hg ?ho ?hn ?hr ?_; (case ho => rfl); (case hg => rfl); (case hn => rfl); (case hr => first | (go_simp; done) | (go_simp; rfl)); intro w8 hw; have HW8 := Aside0.mk hw; clear hw))
              have HP16 := Kd.R_putg HV7.out (T : Int) G
              rw [Int.toNat_natCast] at HP16
              rw [show w7.setCell ⟨g2, T, none⟩ (Value.int .u64 G) = w8 from HW8.out.symm] at HP16
              have HRO : Aside0 (Kd.R (Kd.int .u64) 22 w8 w.heap.size (fun k => k < w6.heap.size) (.slice (some ⟨g2, 0, none⟩) o.length cp2) (o.set T G)) := by
                obtain ⟨i0, inner, ho, hr⟩ := HP16.1
                refine ⟨Kd.R_lower (v := .slice (some ⟨g2, 0, none⟩) o.length cp2) ⟨fun k hk => ?_, inner, ho, hr⟩ HB5.out.size⟩
                have : g2 = k := by simpa [Value.ownBlock] using hk
                have := HGL.out
                omega
              have HS8 : Aside0 (w6.heap.size ≤ w8.heap.size) := ⟨Nat.le_trans HB7.out.size HP16.2.size⟩
              have HBW : Aside0 (Below w5.heap.size w5 w8) := ⟨below_of_grown HP16.2 (HBW56.out.trans (HB7.out.mono H56.out)) HGB.out (Nat.le_refl _)⟩
              have HBW0 : Aside0 (Below w.heap.size w w8) := ⟨below_of_grown HP16.2 (HB6.out.trans (HB7.out.mono HB6.out.size)) (Nat.le_trans HB5.out.size HGB.out) (Nat.le_refl _)⟩
              have HO7 : Aside0 (Kd.R k35 35 w8 w6.heap.size (fun _ => True) v7 ([⟨(T : Int), xT, G⟩] ++ ((fs.take 0).map (fun f => ⟨wrap64 (f.f0 + (x.length : Int)), f.f1, f.f2⟩)))) := ⟨by
                have := Kd.R_over' HO7.out (Kd.R_typed HV7.out) (by decide) HP16.2
                simpa using this⟩
              clear HP16 hx15 hf15
              have HFL := Aside0.mk hfl
              clear hfl
              go_loopw [16, 83] (fun v16 v83 wr => ∃ k : Nat, v83 = .int .i64 (k : Int) ∧ Aside0 (k ≤ fs.length) ∧ Aside0 (Kd.R k35 35 wr w6.heap.size (fun _ => True) v16 (([⟨(T : Int), xT, G⟩] : List S35) ++ ((fs.take k).map (fun f => ⟨wrap64 (f.f0 + (x.length : Int)), f.f1, f.f2⟩)))) ∧ Aside0 (Below w6.heap.size w8 wr)) (fun _ v83 _ => (fs.length - intOf v83).toNat)
              case atStart => exact ⟨0, rfl, ⟨Nat.zero_le _⟩, ⟨HO7.out⟩, ⟨Below.refl _ _⟩⟩
              case round =>
                obtain ⟨k, rfl, HKL, HRX, HBX⟩ := hrel
                by_cases hk : k = fs.length
                · subst hk
                  rw [List.take_length] at HRX
                  go_wp2
                  go_ret3
                  unfold FixPost
                  rw [HV.out]
                  exact ⟨_, _, rfl, Kd.R_mono (Kd.R_move HRO.out (fun k hk => HBX.out.block k hk)) (fun _ _ => trivial), Kd.R_lower HRX.out HB6.out.size, HBW0.out.trans (HBX.out.mono HB6.out.size)⟩
                · have hkl : k < fs.length := by have := HKL.out; omega
                  obtain ⟨ad2, rfl, y0, y1, y2⟩ := at_T35 (Kd.C_below HC2.out (HBW.out.trans (HBX.out.mono H56.out))) (k : Int) (by omega) (by omega)
                  rw [Int.toNat_natCast] at y0 y1 y2
                  have htk : fs.take (k + 1) = fs.take k ++ [rd_T35 fs k] := by
                    rw [List.take_succ_eq_append_getElem hkl]
                    simp [rd_T35, hkl]
                  have HTK := Aside0.mk htk
                  clear htk
                  generalize rd_T35 fs k = q at *
                  obtain ⟨f0, f1, f2⟩ := q
                  simp only at y0 y1 y2
                  clear hk
                  have hln : ((([⟨(T : Int), xT, G⟩] : List S35) ++ (List.map (fun f : S35 => (⟨wrap64 (f.f0 + (x.length : Int)), f.f1, f.f2⟩ : S35)) (fs.take k))).length + 1) * 24 ≤ 140737488355328 := by
                    have := HFL.out
                    simp
                    omega
                  have HLN := Aside0.mk hln
                  clear hln
                  have hsz : w6.heap.size ≤ wr.heap.size := Nat.le_trans HS8.out HBX.out.size
                  go_wp2_with ((with_reducible refine gate_builtin (b := .append) (xs := #[.tmp 93, .tmp 95]) rfl ?_); at_builtin; refine R_append' k35 (w0 := w8) w6.heap.size rfl (.tmp 93) (.tmp 95) 30 35 (.agg #[(.int .i64 0), (.int .u64 0), (.int .u64 0)]) 24 rfl Try.underlying30 info35 rfl (by decide) (by omega) u16 _ (⟨wrap64 (f0 + (m : Int)), f1, f2⟩ : S35) [.int .i64 (wrap64 (f0 + (m : Int))), .int .u64 f1, .int .u64 f2] (fun _ => True) (fun _ => False) _ rfl rfl (by simp) (k35_mkM _ _ _ (⟨wrap64 (f0 + (m : Int)), f1, f2⟩ : S35)) (fun _ hk => hk.elim) (fun _ _ => trivial) (Kd.R_alloc HRX.out _) (below_alloc' HBX.out _ hsz) (by simp; omega) HLN.out ?_; intro v9 w9 ho9 hb9 hg9 hat9; have HO9 := Aside0.mk ho9; have HB9 := Aside0.mk hb9; clear ho9 hb9 hg9 hat9)
                  go_roundw
                  case rel =>
                    refine ⟨k + 1, by rw [wrap_in (by omega) (by have := HFL.out; omega)]; rfl, ⟨hkl⟩, ⟨?_⟩, ⟨HB9.out⟩⟩
                    have := HO9.out
                    rw [HTK.out, List.map_append]
                    simpa [hxl] using this
                  case measure => exact meas hkl (Nat.le_trans HFL.out (by decide))
            · obtain rfl : M = 0 := by rcases hbd with h | h | h <;> omega
              rw [if_neg hM1] at hfm
              have HV := Aside0.mk hfm
              clear hl hr hc hk hL hM h0 hV hN hp hrx hrt hux hut hx ht hrd he hcf hua hub hat hbt hfs hin hbd hfm hM2 hM1
              go_enter Try.func32, Try.ntmps32
              go_wp2_with (first
                | (go_at_call 47; refine (HP.out _).mono ?_; rintro e w2 ⟨rfl, ⟨nd, rfl⟩⟩)
                | (go_at_call 18; refine (HC.out _ (by (repeat (first | exact Below.refl _ _ | apply below_alloc | apply pw_below_drewN | refine Below.setCell ?_ (by first | omega | (simp; done) | (simp; omega)) _)))).mono ?_; rintro e w3 ⟨ad, c1, v1, rfl, hl1, hrd1, q0, q1, hv1, hb3⟩; have HB3 := Aside0.mk (below_then (n := w.heap.size) (w := w) hb3 (by simp) (by (repeat (first | exact Below.refl _ _ | apply below_alloc | apply pw_below_drewN | refine Below.setCell ?_ (by first | omega | (simp; done) | (simp; omega)) _)))); have HRD := Aside0.mk hrd1; have HL1 := Aside0.mk hl1; have HV1 := Aside0.mk hv1; clear hv1 hb3 hl1 hrd1)
                | (go_at_call 38; refine (HI.out _ _ _ HRD.out HL1.out).mono ?_; rintro e w4 ⟨rfl, ⟨nd4, rfl⟩⟩)
                | (go_at_call 48; refine (HW.out _ (by repeat (first | exact HB3.out | apply pw_below_drewN))).mono ?_; rintro e w5 ⟨rfl, hb5⟩; have HB5 := Aside0.mk (below_then (n := w.heap.size) (w := w) hb5 (by simpa using HB3.out.size) (by repeat (first | exact HB3.out | apply pw_below_drewN))); have q0' : w5.cell? ad = some (.int .u64 a) := below_cell hb5 (World.block_lt_of_cell? w3 _ q0) q0; have q1' : w5.cell? ⟨ad.block, ad.off + 1, none⟩ = some (.int .u64 b) := below_cell hb5 (World.block_lt_of_cell? w3 _ q1) q1; have HV15 := Aside0.mk (Kd.R_below (Kd.R_drewN HV1.out _) hb5); clear hb5)
                | (go_at_call 46; refine (HH.out _ HB5.out).mono ?_; rintro e w6 ⟨v2, rfl, hv2, hb6⟩; have HRO := Aside0.mk (Kd.R_lower (Kd.R_mono (ok' := fun k => k < w6.heap.size) (Kd.R_bound hv2) (fun k hk => hk.2.2.1)) HB5.out.size); have HB6 := Aside0.mk (below_then hb6 HB5.out.size HB5.out); obtain ⟨A2, c2, rfl, hl2, hC2⟩ := Kd.R_reads HV15.out; have HC2 := Aside0.mk hC2; have H56 := Aside0.mk hb6.size; have HBW56 := Aside0.mk hb6; clear hv2 hb6 hl2 hC2 ))
              have HBW := HBW56
              have HFL := Aside0.mk hfl
              clear hfl
              go_loopw [16, 83] (fun v16 v83 wr => ∃ k : Nat, v83 = .int .i64 (k : Int) ∧ Aside0 (k ≤ fs.length) ∧ Aside0 (Kd.R k35 35 wr w6.heap.size (fun _ => True) v16 (((fs.take k).map (fun f => ⟨wrap64 (f.f0 + (x.length : Int)), f.f1, f.f2⟩)))) ∧ Aside0 (Below w6.heap.size w6 wr)) (fun _ v83 _ => (fs.length - intOf v83).toNat)
              case atStart => exact ⟨0, rfl, ⟨Nat.zero_le _⟩, ⟨Kd.R_nil _ _ _ _ _⟩, ⟨Below.refl _ _⟩⟩
              case round =>
                obtain ⟨k, rfl, HKL, HRX, HBX⟩ := hrel
                by_cases hk : k = fs.length
                · subst hk
                  rw [List.take_length] at HRX
                  go_wp2
                  go_ret3
                  unfold FixPost
                  rw [HV.out]
                  exact ⟨_, _, rfl, Kd.R_mono (Kd.R_move HRO.out (fun k hk => HBX.out.block k hk)) (fun _ _ => trivial), Kd.R_lower HRX.out HB6.out.size, HB6.out.trans (HBX.out.mono HB6.out.size)⟩
                · have hkl : k < fs.length := by have := HKL.out; omega
                  obtain ⟨ad2, rfl, y0, y1, y2⟩ := at_T35 (Kd.C_below HC2.out (HBW.out.trans (HBX.out.mono H56.out))) (k : Int) (by omega) (by omega)
                  rw [Int.toNat_natCast] at y0 y1 y2
                  have htk : fs.take (k + 1) = fs.take k ++ [rd_T35 fs k] := by
                    rw [List.take_succ_eq_append_getElem hkl]
                    simp [rd_T35, hkl]
                  have HTK := Aside0.mk htk
                  clear htk
                  generalize rd_T35 fs k = q at *
                  obtain ⟨f0, f1, f2⟩ := q
                  simp only at y0 y1 y2
                  clear hk
                  have hln : (((List.map (fun f : S35 => (⟨wrap64 (f.f0 + (x.length : Int)), f.f1, f.f2⟩ : S35)) (fs.take k))).length + 1) * 24 ≤ 140737488355328 := by
                    have := HFL.out
                    simp
                    omega
                  have HLN := Aside0.mk hln
                  clear hln
                  have hsz : w6.heap.size ≤ wr.heap.size := Nat.le_trans (Nat.le_refl _) HBX.out.size
                  go_wp2_with ((with_reducible refine gate_builtin (b := .append) (xs := #[.tmp 93, .tmp 95]) rfl ?_); at_builtin; refine R_append' k35 (w0 := w6) w6.heap.size rfl (.tmp 93) (.tmp 95) 30 35 (.agg #[(.int .i64 0), (.int .u64 0), (.int .u64 0)]) 24 rfl Try.underlying30 info35 rfl (by decide) (by omega) u16 _ (⟨wrap64 (f0 + (m : Int)), f1, f2⟩ : S35) [.int .i64 (wrap64 (f0 + (m : Int))), .int .u64 f1, .int .u64 f2] (fun _ => True) (fun _ => False) _ rfl rfl (by simp) (k35_mkM _ _ _ (⟨wrap64 (f0 + (m : Int)), f1, f2⟩ : S35)) (fun _ hk => hk.elim) (fun _ _ => trivial) (Kd.R_alloc HRX.out _) (below_alloc' HBX.out _ hsz) (by simp; omega) HLN.out ?_; intro v9 w9 ho9 hb9 hg9 hat9; have HO9 := Aside0.mk ho9; have HB9 := Aside0.mk hb9; clear ho9 hb9 hg9 hat9)
                  go_roundw
                  case rel =>
                    refine ⟨k + 1, by rw [wrap_in (by omega) (by have := HFL.out; omega)]; rfl, ⟨hkl⟩, ⟨?_⟩, ⟨HB9.out⟩⟩
                    have := HO9.out
                    rw [HTK.out, List.map_append]
                    simpa [hxl] using this
                  case measure => exact meas hkl (Nat.le_trans HFL.out (by decide))
        · have HV : Aside0 (fixM p x ([a, b], fs, 0) = ([], [], 10)) := ⟨by unfold fixM; rw [if_neg (by simp), if_pos (by simpa using hin)]⟩
          rw [Bool.not_eq_true] at hin
          rw [hin] at HI
          clear hl hr hc hk hL hM h0 hV hN hp hrx hrt hux hut hx ht hrd he hcf hua hub hat hbt hfs hfl hin
          go_enter Try.func32, Try.ntmps32
          go_wp2_with (first
            | (go_at_call 47; refine (HP.out _).mono ?_; rintro e w2 ⟨rfl, ⟨nd, rfl⟩⟩)
            | (go_at_call 18; refine (HC.out _ (by (repeat (first | exact Below.refl _ _ | apply below_alloc | apply pw_below_drewN | refine Below.setCell ?_ (by first | omega | (simp; done) | (simp; omega)) _)))).mono ?_; rintro e w3 ⟨ad, c1, v1, rfl, hl1, hrd1, q0, q1, hv1, hb3⟩; have HB3 := Aside0.mk (below_then (n := w.heap.size) (w := w) hb3 (by simp) (by (repeat (first | exact Below.refl _ _ | apply below_alloc | apply pw_below_drewN | refine Below.setCell ?_ (by first | omega | (simp; done) | (simp; omega)) _)))); have HRD := Aside0.mk hrd1; have HL1 := Aside0.mk hl1; have HV1 := Aside0.mk hv1; clear hv1 hb3 hl1 hrd1)
            | (go_at_call 38; refine (HI.out _ _ _ HRD.out HL1.out).mono ?_; rintro e w4 ⟨rfl, ⟨nd4, rfl⟩⟩))
          go_ret3
          exact FixPost.nil HV.out (by repeat (first | exact HB3.out | apply pw_below_drewN))
      · have HV : Aside0 (fixM p x (cellsF t) = ([], [], (cellsF t).2.2)) := ⟨by unfold fixM; rw [if_pos he]⟩
        have e1 : ((cellsF t).2.2 != 0) = true := by simpa using he
        generalize cellsF t = R at *
        clear hl hr hc hk hL hM h0 hV hN hp hrx hrt hux hut hx ht hrd he
        go_enter Try.func32, Try.ntmps32
        go_wp2_with (first
          | (go_at_call 47; refine (HP.out _).mono ?_; rintro e w2 ⟨rfl, ⟨nd, rfl⟩⟩)
          | (go_at_call 18; refine (HC.out _ (by (repeat (first | exact Below.refl _ _ | apply below_alloc | apply pw_below_drewN | refine Below.setCell ?_ (by first | omega | (simp; done) | (simp; omega)) _)))).mono ?_; rintro e w3 ⟨v0, v1, rfl, hv0, hv1, hb3⟩; have HB3 := Aside0.mk (below_then (n := w.heap.size) (w := w) hb3 (by simp) (by (repeat (first | exact Below.refl _ _ | apply below_alloc | apply pw_below_drewN | refine Below.setCell ?_ (by first | omega | (simp; done) | (simp; omega)) _)))); clear hv0 hv1 hb3))
        go_ret3
        exact FixPost.nil HV.out HB3.out
  · have HV : Aside0 (fixV p l = ([], [], 2)) := ⟨by unfold fixV; rw [if_neg hk]⟩
    have HP := Aside0.mk (parts_none (c := c) (A := A) hk hM)
    clear hl hr hc hk hL hM
    go_enter Try.func32, Try.ntmps32
    go_wp2_with (go_at_call 47; refine (HP.out _).mono ?_; rintro e w2 ⟨rfl, ⟨nd, rfl⟩⟩)
    go_ret3
    exact FixPost.nil HV.out (by (repeat (first | exact Below.refl _ _ | apply below_alloc | apply pw_below_drewN | refine Below.setCell ?_ (by first | omega | (simp; done) | (simp; omega)) _)))
end Go.Proofs.Ytcmipgccfgloiaa.Cd
