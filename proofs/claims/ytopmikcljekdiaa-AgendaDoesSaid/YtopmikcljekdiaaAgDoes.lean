/- AgendaDoes: the walk. -/
import Derived.Test.YtopmikcljekdiaaAgDoesA
namespace Go.Proofs.Ytopmikcljekdiaa.Ag
open Go.RowKit Go.Proofs.YtopmikcljekdiaaW.PrintWords Go.Proofs.YtopmikcljekdiaaW.PrintLast Go.Proofs.YtopmikcljekdiaaW.PrintMore Go.Proofs.Ytopmikcljekdiaa.PA Go.Proofs.Ytopmikcljekdiaa.SL
set_option linter.unusedVariables false
set_option maxRecDepth 100000
set_option maxHeartbeats 32000000
theorem rank_nil2 (pv : Int) : Rank [] pv [] := ⟨fun i _ h => by simp at h, [], List.Perm.refl _, List.Pairwise.nil, rfl, by simp⟩
theorem rank_rest {es : List S81} {pv : Int} {l : List S31} (h : Rank es pv l) (ht : ∀ y ∈ es, y.f0.f3 ≤ 9223372036854775807) : (dueE 9223372036854775807 es.length es).1 = l ∧ (dueE 9223372036854775807 es.length es).2 = [] := by
  refine ⟨?_, due_all _ _ _ (Nat.le_refl _) ht⟩
  rw [(rank_due 9223372036854775807 h).1]
  obtain ⟨_, S, hp, _, rfl, _⟩ := h
  refine List.filter_eq_self.2 (fun y hy => ?_)
  obtain ⟨z, hz, rfl⟩ := List.mem_map.1 hy
  exact decide_eq_true (ht z (hp.subset hz))
theorem tick_put {s : List S81 × Int} {xs : List S31} (h1 : ∀ y ∈ s.1, y.f0.f3 ≤ 9223372036854775807) (h2 : ∀ x ∈ xs, x.f3 ≤ 9223372036854775807) : ∀ y ∈ (pushN s xs).1, y.f0.f3 ≤ 9223372036854775807 := by
  intro y hy
  have h3 := (push_perm xs s).subset (List.mem_map_of_mem (f := fun z : S81 => z.f0) hy)
  rcases List.mem_append.1 h3 with h | h
  · obtain ⟨z, hz, e⟩ := List.mem_map.1 h
    rw [← e]
    exact h1 z hz
  · exact h2 _ h
theorem St.same0 {w0 w : World} {L : List Asn} {A B : Option Addr} {n m c d : Nat} {os : List S31} (hr : Kd.C k31 w0 A n os) (h : St w0 w (EvA (.slice B m d) os :: L)) (hn : os.length = n) (hm : os.length = m) (hc : n ≤ c) (hd : m ≤ d) (hl : n ≤ 100000) :
    Calls Try.prog 19 #[.slice A n c, .slice B m d] w fun e w' => e = .returned (.bool true) ∧ St w0 w' (EvA (.slice B m d) os :: L) := by
  have r1 := below_C hr h.below
  have r2 := h.read hm
  subst hn hm
  refine (brackenref10_Same.calls _ A c os B d os true w r1 hc r2 hd (same_refl os hl)).mono ?_
  rintro e w' ⟨rfl, hd⟩
  exact ⟨rfl, h.drawn0 hd⟩
def nx (es : List S81) : Int × Int := match es with | [] => (0, 9) | x :: _ => (x.f0.f3, 0)
def nxl (l : List S31) : Int × Int := match l with | [] => (0, 9) | x :: _ => (x.f3, 0)
theorem nx_eq {es : List S81} {pv : Int} {l : List S31} (h : Rank es pv l) : nxl l = nx es := by
  rcases es with _ | ⟨x, r⟩
  · have := rank_len h
    obtain rfl : l = [] := List.eq_nil_of_length_eq_zero (by simpa using this)
    rfl
  · obtain ⟨q, rfl⟩ := rank_head h
    rfl
theorem St.next {w0 w : World} {L : List Asn} {g : Nat} {es : List S81} {put a b : Int} (h : St w0 w (AgA g es put :: L)) (hn : es.length ≤ 1024) (hx : nx es = (a, b)) :
    Calls Try.prog 25 #[.pointer (some ⟨g, 0, none⟩)] w fun e w' => e = .returned (.tuple #[.int .i64 a, .int .i64 b]) ∧ w' = w := by
  rcases es with _ | ⟨x, r⟩
  · obtain ⟨rfl, rfl⟩ := Prod.mk.injEq _ _ _ _ ▸ hx
    exact h.next0
  · obtain ⟨rfl, rfl⟩ := Prod.mk.injEq _ _ _ _ ▸ hx
    exact h.next1 hn
theorem St.rnext {w0 w : World} {L : List Asn} {r : Nat} {l : List S31} {a b : Int} (h : St w0 w (RfA r l :: L)) (hn : l.length ≤ 1024) (hx : nxl l = (a, b)) :
    Calls Try.prog 26 #[.pointer (some ⟨r, 0, none⟩)] w fun e w' => e = .returned (.tuple #[.int .i64 a, .int .i64 b]) ∧ w' = w := by
  rcases l with _ | ⟨x, q⟩
  · obtain ⟨rfl, rfl⟩ := Prod.mk.injEq _ _ _ _ ▸ hx
    exact h.rnext0
  · obtain ⟨rfl, rfl⟩ := Prod.mk.injEq _ _ _ _ ▸ hx
    exact h.rnext1 hn
structure DR (w wr : World) (g r : Nat) (VA : Value) (xs : List S31) (k : Nat) (es : List S81) (pv : Int) (l : List S31) : Prop where
  st : St w wr [AgA g es pv, RfA r l, EvA VA xs]
  rank : Rank es pv l
  small : es.length ≤ 1024
  pvb : 0 ≤ pv ∧ pv ≤ 1100 + 40 * k
  tick : ∀ y ∈ es, y.f0.f3 ≤ 9223372036854775807
theorem does_walk {n m kt c d e : Nat} {A B T : Option Addr} {xs ys : List S31} {zs : List Int} {w : World} (hx : xs.length = n) (hy : ys.length = m) (hn : n ≤ 40 ∨ (1000 ≤ n ∧ n ≤ 1024)) (hm : m ≤ 40) (hk : kt ≤ 12) (hc : n ≤ c)
    (hr : Kd.C k31 w A n xs) (hry : Kd.C k31 w B m ys) (hz : IsRow .i64 w T kt e zs) (hmx : ∀ x ∈ xs, x.f3 ≤ 9223372036854775807) (hmy : ∀ x ∈ ys, x.f3 ≤ 9223372036854775807) :
    Calls Try.prog 5 #[.slice A n c, .slice B m d, .slice T kt e] w fun e w' => e = .returned (.bool true) ∧ Below w.heap.size w w' := by
  have S0 := Aside0.mk (St.nil w)
  obtain ⟨P, pv, hP⟩ : ∃ P pv, pushN ([], 0) xs = (P, pv) := ⟨_, _, rfl⟩
  have hPl : P.length = n ∧ pv = n := by have := (pushN_len xs ([], 0)); rw [hP] at this; simpa [hx] using this
  obtain ⟨l0, hl0⟩ : ∃ l0, insN [] xs = l0 := ⟨_, rfl⟩
  have hrk : Rank P pv l0 := by have := rank_put xs ([], 0) [] rank_nil; rw [hP, hl0] at this; exact this
  have htk : ∀ y ∈ P, y.f0.f3 ≤ 9223372036854775807 := by have := tick_put (s := ([], 0)) (by simp) hmx; rw [hP] at this; exact this
  have HP1 : Aside0 ((pushN ([], 0) xs).1 = P) := ⟨by rw [hP]⟩
  have HP2 : Aside0 ((pushN ([], 0) xs).2 = pv) := ⟨by rw [hP]⟩
  have HL0 := Aside0.mk hl0
  have HRK := Aside0.mk hrk
  have HTK := Aside0.mk htk
  have HR := Aside0.mk hr
  have HRY := Aside0.mk hry
  have HX := Aside0.mk hx
  have HY := Aside0.mk hy
  have HZ := Aside0.mk hz
  have HMY := Aside0.mk hmy
  have hn1024 : n ≤ 1024 := by omega
  have HN := Aside0.mk hn1024
  have HB : Aside0 (([] : List S31).length + n ≤ 100000) := ⟨by simp; omega⟩
  have HPB : Aside0 (P.length ≤ 1024) := ⟨by omega⟩
  have HPV : Aside0 (0 ≤ pv ∧ pv ≤ 1100 + 40 * (0 : Nat)) := ⟨by omega⟩
  have HCC := Aside0.mk hc
  have h4 : decide ((40 : Int) < (m : Int)) = false := decide_eq_false (by omega)
  have h5 : decide ((12 : Int) < (kt : Int)) = false := decide_eq_false (by omega)
  have hcs : (decide ((40 : Int) < (n : Int)) = false ∧ decide ((1030 : Int) < (n : Int)) = false) ∨ (decide ((40 : Int) < (n : Int)) = true ∧ decide ((n : Int) < (1000 : Int)) = false ∧ decide ((1030 : Int) < (n : Int)) = false) := by
    simp only [decide_eq_true_eq, decide_eq_false_iff_not]
    omega
  clear hx hy hn hc hr hry hz hmx hmy hP hPl hl0 hrk htk
  rcases hcs with ⟨h1, h3⟩ | ⟨h1, h2, h3⟩
  all_goals
    go_enter Try.func5, Try.ntmps5
    go_wp2_with (first
      | (go_at_call 16; refine S0.out.live.mono ?_; rintro e w1 ⟨rfl, h⟩; have S1 := Aside0.mk h; have SE := Aside0.mk (hold_nil h); clear h)
      | (at_builtin; refine St.append (ds := xs) SE.out (below_C HR.out SE.out.below) rfl (.const (.slice none 0 0)) (.tmp 46) rfl rfl rfl HB.out rfl ?_; intro A2 c2 w2 hc2 h; have S2 := Aside0.mk h; have C2 := Aside0.mk hc2; clear h hc2)
      | (go_at_call 17; refine (St.new S2.out HR.out HX.out HN.out).mono ?_; rintro e w3 ⟨g, rfl, h⟩; rw [HP1.out, HP2.out] at h; have S3 := Aside0.mk h; clear h)
      | (go_at_call 22; refine (St.rnew S3.out HR.out HX.out HN.out).mono ?_; rintro e w4 ⟨r, rfl, h⟩; rw [HL0.out] at h; have S4 := Aside0.mk h.sw1; clear h))
    go_loopw [69] (fun v69 wq => ∃ (k : Nat) (es : List S81) (pv : Int) (l : List S31), v69 = .int .i64 k ∧ Aside0 (k ≤ kt) ∧ Aside0 (DR w wq g r (.slice A2 xs.length c2) xs k es pv l)) (fun v69 _ => kt - (intOf v69).toNat)
    case atStart => exact ⟨0, P, pv, l0, rfl, ⟨Nat.zero_le _⟩, ⟨⟨S4.out, HRK.out, HPB.out, HPV.out, HTK.out⟩⟩⟩
    case round =>
      obtain ⟨k, es, pv', l, rfl, HK, HD⟩ := hrel
      by_cases hkk : k < kt
      · obtain ⟨ds, drank, dsmall, dpv, dtick⟩ := HD.out
        obtain ⟨ta, rfl, hta⟩ := HZ.out.at ds.below k hkk
        obtain ⟨t, ht⟩ : ∃ t, t = zs.getD k 0 := ⟨_, rfl⟩
        rw [← ht] at hta
        obtain ⟨hD1, hRk⟩ := rank_due t drank
        have hll := rank_len drank
        have htR := (due_mem (t := t) (n := es.length) (p := fun x => x.f3 ≤ 9223372036854775807) (Nat.le_refl _) dtick).2
        have hlens := due_len t es.length es (Nat.le_refl _)
        rw [hD1] at hlens
        obtain ⟨D, hDD⟩ : ∃ D, l.filter (upto t) = D := ⟨_, rfl⟩
        obtain ⟨l2, hl2⟩ : ∃ l2, l.filter (past t) = l2 := ⟨_, rfl⟩
        obtain ⟨R, hRR⟩ : ∃ R, (dueE t es.length es).2 = R := ⟨_, rfl⟩
        rw [hDD] at hD1 hlens
        rw [hl2, hRR] at hRk
        rw [hRR] at htR hlens
        obtain ⟨na, nb, hnx⟩ : ∃ a b, nx R = (a, b) := ⟨_, _, rfl⟩
        have HNX := Aside0.mk hnx
        have HNL : Aside0 (nxl l2 = (na, nb)) := ⟨by rw [nx_eq hRk, hnx]⟩
        have HD1 := Aside0.mk hD1
        have HR2 := Aside0.mk hRR
        have HDD := Aside0.mk hDD
        have HL2 := Aside0.mk hl2
        have HRk := Aside0.mk hRk
        have HTR := Aside0.mk htR
        have HSM := Aside0.mk dsmall
        have hl2l := rank_len hRk
        have HLL := Aside0.mk hl2l
        have HLB : Aside0 (l.length ≤ 2000) := ⟨by omega⟩
        have HRB : Aside0 (R.length ≤ 1024) := ⟨by omega⟩
        have HL2B : Aside0 (l2.length ≤ 1024) := ⟨by omega⟩
        have HDB : Aside0 (D.length ≤ 100000) := ⟨by omega⟩
        have hDb : D.length ≤ 1024 := by omega
        have HPVB := Aside0.mk dpv
        have HKK := Aside0.mk hkk
        have hk12 : k ≤ 12 := by omega
        have SS := Aside0.mk ds
        clear ds drank dsmall dpv dtick ht hD1 hRk hll htR hlens hDD hl2 hRR hnx hl2l
        go_wp2_with (first
          | (go_at_call 23; refine (St.due SS.out HSM.out).mono ?_; rintro e w5 ⟨A5, c5, he, hc5, h⟩; rw [HD1.out] at he hc5 h; rw [HR2.out] at h; subst he; have S1' := Aside0.mk h.sw2; have D5 := Aside0.mk hc5; clear h hc5)
          | (go_at_call 24; refine (St.rdue S1'.out HLB.out).mono ?_; rintro e w6 ⟨A6, c6, he, hc6, h⟩; rw [HDD.out] at he hc6 h; rw [HL2.out] at h; subst he; have S2' := Aside0.mk h.sw3; have D6 := Aside0.mk hc6; clear h hc6)
          | (go_at_call 25; refine (St.next S2'.out HRB.out HNX.out).mono ?_; rintro e w7 ⟨rfl, hw⟩; obtain rfl := hw.symm)
          | (go_at_call 26; refine (St.rnext S2'.out.sw2 HL2B.out HNL.out).mono ?_; rintro e w7 ⟨rfl, hw⟩; obtain rfl := hw.symm)
          | (go_at_call 19; refine (St.same S2'.out.sw3 S2'.out.sw1 rfl rfl D5.out D6.out HDB.out).mono ?_; rintro e w7 ⟨rfl, h⟩; have S4' := Aside0.mk h; clear h)
          | (go_at_call 21; refine (St.left S4'.out.sw1).mono ?_; rintro e w8 ⟨rfl, hw⟩; obtain rfl := hw.symm)
          | (go_at_call 27; refine (St.rleft S4'.out.sw3).mono ?_; rintro e w8 ⟨he, hw⟩; rw [HLL.out] at he; subst he; obtain rfl := hw.symm))
        go_loopw [113] (fun v113 wq => ∃ (z : Nat) (D' : List S31), v113 = .int .i64 z ∧ Aside0 (z ≤ D.length) ∧ Aside0 (D'.length = D.length) ∧ Aside0 (St w wq [EvA (.slice A5 D.length c5) D', AgA g R pv', EvA (.slice A6 D.length c6) D, RfA r l2, EvA (.slice A2 xs.length c2) xs])) (fun v113 _ => D.length - (intOf v113).toNat)
        case atStart => exact ⟨0, D, rfl, ⟨Nat.zero_le _⟩, ⟨rfl⟩, S4'⟩
        case round =>
          obtain ⟨z, D', rfl, HZ2, HDl, SQ⟩ := hrel
          by_cases hzz : z < D.length
          · obtain ⟨FF, hA, _, _⟩ := SQ.out.one
            have hE : EvR wr (.slice A5 D.length c5) D' := hA.2.1
            have hdl := HDl.out
            obtain ⟨g14, cap14, he14, _, _⟩ := World.ownsRow.form hE (by omega)
            injection he14 with e1 e2 e3
            subst e1
            obtain ⟨ad, ead, x0, x1, x2, x3, x4, x5⟩ := at_T31 (SQ.out.read hdl) (z : Int) (by omega) (by omega)
            cases ead
            rw [Int.toNat_natCast, add_plain] at x3
            obtain ⟨_, f3⟩ := cells_at31 hE hdl z hzz 3 (by decide)
            have had : (⟨g14, 0, none⟩ : Addr).add (z * 6) = ⟨g14, z * 6, none⟩ := add_plain g14 _
            generalize (rd_T31 D' (z : Int)).f3 = tau at *
            have HZZ := Aside0.mk hzz
            have HE2 := Aside0.mk e2
            have hz1024 : z ≤ 1024 := by omega
            clear x0 x1 x2 x4 x5 hA hE e2 e3 hdl
            go_wp2
            refine ⟨(SQ.out.setTick HDl.out HZZ.out).elim fun D2 h => ⟨z + 1, D2, by simp, ⟨HZZ.out⟩, ⟨h.1⟩, ⟨h.2⟩⟩, ?_⟩
            have := HZZ.out
            simp [intOf]
            omega
          · obtain ⟨zl, hzl⟩ : ∃ zl, zl = z := ⟨_, rfl⟩
            have S5' := Aside0.mk SQ.out.drop.sw1.drop
            have hzd : decide ((z : Int) < (D.length : Int)) = false := decide_eq_false (by omega)
            clear hzl
            by_cases hk3 : k % 3 = 0
            · have hm1 : (k : Int) % 3 = 0 := by omega
              by_cases hfit : R.length + m ≤ 1024
              · have hfl := HLL.out
                have HF1 := Aside0.mk hfit
                have HF2 : Aside0 (l2.length + m ≤ 1024) := ⟨by omega⟩
                have hpvb := HPVB.out
                have HBV : Aside0 (0 ≤ pv' ∧ pv' ≤ 1000000) := ⟨by omega⟩
                obtain ⟨R2, pv2, hR2⟩ : ∃ R2 pv2, pushN (R, pv') ys = (R2, pv2) := ⟨_, _, rfl⟩
                obtain ⟨l3, hl3⟩ : ∃ l3, insN l2 ys = l3 := ⟨_, rfl⟩
                have hlen := pushN_len ys (R, pv')
                rw [hR2, HY.out] at hlen
                simp only at hlen
                have HRN : Aside0 (Rank R2 pv2 l3) := ⟨by have := rank_put ys (R, pv') l2 HRk.out; rw [hR2, hl3] at this; exact this⟩
                have HTN : Aside0 (∀ y ∈ R2, y.f0.f3 ≤ 9223372036854775807) := ⟨by have := tick_put (s := (R, pv')) HTR.out HMY.out; rw [hR2] at this; exact this⟩
                have HSN : Aside0 (R2.length ≤ 1024) := ⟨by omega⟩
                have HPN : Aside0 (0 ≤ pv2 ∧ pv2 ≤ 1100 + 40 * ((k + 1 : Nat) : Int)) := ⟨by omega⟩
                have HR21 : Aside0 ((pushN (R, pv') ys).1 = R2) := ⟨by rw [hR2]⟩
                have HR22 : Aside0 ((pushN (R, pv') ys).2 = pv2) := ⟨by rw [hR2]⟩
                have HL3 := Aside0.mk hl3
                clear hlen hR2 hl3 hfl hpvb hfit
                go_wp2_with (first
                  | (go_at_call 20; refine (St.put S5'.out HRY.out HY.out HF1.out HBV.out).mono ?_; rintro e w9 ⟨rfl, h⟩; rw [HR21.out, HR22.out] at h; have S6' := Aside0.mk h.sw1; clear h)
                  | (go_at_call 28; refine (St.rput S6'.out HRY.out HY.out HF2.out).mono ?_; rintro e w9 ⟨rfl, h⟩; rw [HL3.out] at h; have S7' := Aside0.mk h.sw1; clear h))
                refine ⟨⟨k + 1, R2, pv2, l3, by simp, ⟨HKK.out⟩, ⟨⟨S7'.out, HRN.out, HSN.out, HPN.out, HTN.out⟩⟩⟩, ?_⟩
                have := HKK.out
                simp [intOf]
                omega
              · have hfl := HLL.out
                have HF1 : Aside0 (1024 < R.length + m) := ⟨by omega⟩
                have HF2 : Aside0 (1024 < l2.length + m) := ⟨by omega⟩
                have HM5 : Aside0 (m ≤ 100000) := ⟨by omega⟩
                have HPN : Aside0 (0 ≤ pv' ∧ pv' ≤ 1100 + 40 * ((k + 1 : Nat) : Int)) := ⟨by have := HPVB.out; omega⟩
                clear hfit hfl
                go_wp2_with (first
                  | (go_at_call 20; refine (St.putFull S5'.out HRB.out HF1.out HM5.out).mono ?_; rintro e w9 ⟨rfl, hw⟩; obtain rfl := hw.symm)
                  | (go_at_call 28; refine (St.rputFull S5'.out.sw1 HL2B.out HF2.out HM5.out).mono ?_; rintro e w9 ⟨rfl, hw⟩; obtain rfl := hw.symm))
                refine ⟨⟨k + 1, R, pv', l2, by simp, ⟨HKK.out⟩, ⟨⟨S5'.out, HRk.out, HRB.out, HPN.out, HTR.out⟩⟩⟩, ?_⟩
                have := HKK.out
                simp [intOf]
                omega
            · have hm1 : decide ((k : Int) % 3 = 0) = false := decide_eq_false (by omega)
              have HPN : Aside0 (0 ≤ pv' ∧ pv' ≤ 1100 + 40 * ((k + 1 : Nat) : Int)) := ⟨by have := HPVB.out; omega⟩
              go_wp2
              refine ⟨⟨k + 1, R, pv', l2, by simp, ⟨HKK.out⟩, ⟨⟨S5'.out, HRk.out, HRB.out, HPN.out, HTR.out⟩⟩⟩, ?_⟩
              have := HKK.out
              simp [intOf]
              omega
      · obtain rfl : kt = k := by have := HK.out; omega
        obtain ⟨ds, drank, dsmall, dpv, dtick⟩ := HD.out
        obtain ⟨hE1, hE2⟩ := rank_rest drank dtick
        have HE1 := Aside0.mk hE1
        have HE2 := Aside0.mk hE2
        have HSM := Aside0.mk dsmall
        have hll := rank_len drank
        have HLB : Aside0 (l.length ≤ 100000) := ⟨by omega⟩
        obtain ⟨Q, qv, hQ⟩ : ∃ Q qv, pushN ([], pv') ys = (Q, qv) := ⟨_, _, rfl⟩
        obtain ⟨l2, hl2⟩ : ∃ l2, insN [] ys = l2 := ⟨_, rfl⟩
        have hrk2 : Rank Q qv l2 := by have := rank_put ys ([], pv') [] (rank_nil2 pv'); rw [hQ, hl2] at this; exact this
        have htk2 : ∀ y ∈ Q, y.f0.f3 ≤ 9223372036854775807 := by have := tick_put (s := ([], pv')) (by simp) HMY.out; rw [hQ] at this; exact this
        have hQl : Q.length = m := by have := (pushN_len ys ([], pv')).1; rw [hQ] at this; simpa [HY.out] using this
        obtain ⟨hF1, hF2⟩ := rank_rest hrk2 htk2
        have hl2l := rank_len hrk2
        have HQ1 : Aside0 ((pushN ([], pv') ys).1 = Q) := ⟨by rw [hQ]⟩
        have HQ2 : Aside0 ((pushN ([], pv') ys).2 = qv) := ⟨by rw [hQ]⟩
        have HL2 := Aside0.mk hl2
        have HF1 := Aside0.mk hF1
        have HF2 := Aside0.mk hF2
        have HB0 : Aside0 (([] : List S81).length + m ≤ 1024) := ⟨by simp; omega⟩
        have HB0r : Aside0 (([] : List S31).length + m ≤ 1024) := ⟨by simp; omega⟩
        have HBV : Aside0 (0 ≤ pv' ∧ pv' ≤ 1000000) := ⟨by omega⟩
        have HBQ : Aside0 (Q.length ≤ 1024) := ⟨by omega⟩
        have HBL2 : Aside0 (l2.length ≤ 100000) := ⟨by omega⟩
        have HN5 : Aside0 (n ≤ 100000) := ⟨by omega⟩
        have SS := Aside0.mk ds
        have HXs : Aside0 (xs.length = xs.length) := ⟨rfl⟩
        clear ds drank dsmall dpv dtick hE1 hE2 hll hQ hl2 hrk2 htk2 hQl hF1 hF2 hl2l
        go_wp2_with (first
          | (go_at_call 18; refine (St.rest T6.out HBQ.out).mono ?_; rintro e w5 ⟨A5, c5, he, hc5, h⟩; rw [HF1.out] at he hc5 h; rw [HF2.out] at h; subst he; have T7 := Aside0.mk h.sw2; have C7 := Aside0.mk hc5; clear h hc5)
          | (go_at_call 18; refine (St.rest SS.out HSM.out).mono ?_; rintro e w5 ⟨A5, c5, he, hc5, h⟩; rw [HE1.out] at he hc5 h; rw [HE2.out] at h; subst he; have T1 := Aside0.mk h.sw2; have C1 := Aside0.mk hc5; clear h hc5)
          | (go_at_call 29; refine (St.rrest T7.out).mono ?_; rintro e w6 ⟨A6, c6, rfl, hc6, h⟩; have T8 := Aside0.mk h; have C8 := Aside0.mk hc6; clear h hc6)
          | (go_at_call 29; refine (St.rrest T1.out).mono ?_; rintro e w6 ⟨A6, c6, rfl, hc6, h⟩; have T2 := Aside0.mk h; have C2' := Aside0.mk hc6; clear h hc6)
          | (go_at_call 19; refine (St.same T8.out.sw2 T8.out rfl rfl C7.out C8.out HBL2.out).mono ?_; rintro e w7 ⟨rfl, h⟩; have T9 := Aside0.mk h; clear h)
          | (go_at_call 19; refine (St.same0 HR.out T3.out.sw4 HX.out rfl HCC.out C2.out HN5.out).mono ?_; rintro e w7 ⟨rfl, h⟩; have T4 := Aside0.mk h.sw4; clear h)
          | (go_at_call 19; refine (St.same T2.out.sw2 T2.out rfl rfl C1.out C2'.out HLB.out).mono ?_; rintro e w7 ⟨rfl, h⟩; have T3 := Aside0.mk h; clear h)
          | (go_at_call 21; refine (St.left T3.out.sw3).mono ?_; rintro e w8 ⟨rfl, hw⟩; obtain rfl := hw.symm)
          | (go_at_call 20; refine (St.put T4.out HRY.out HY.out HB0.out HBV.out).mono ?_; rintro e w9 ⟨rfl, h⟩; rw [HQ1.out, HQ2.out] at h; have T5 := Aside0.mk h.sw4; clear h)
          | (go_at_call 28; refine (St.rput T5.out HRY.out HY.out HB0r.out).mono ?_; rintro e w9 ⟨rfl, h⟩; rw [HL2.out] at h; have T6 := Aside0.mk h.sw1; clear h))
        go_ret
        exact ⟨rfl, T9.out.below⟩
theorem does_all {n m kt c d e : Nat} {A B T : Option Addr} {xs ys : List S31} {zs : List Int} {w : World} (hx : xs.length = n) (hy : ys.length = m) (hc : n ≤ c)
    (hr : Kd.C k31 w A n xs) (hry : Kd.C k31 w B m ys) (hz : IsRow .i64 w T kt e zs) (hmx : ∀ x ∈ xs, x.f3 ≤ 9223372036854775807) (hmy : ∀ x ∈ ys, x.f3 ≤ 9223372036854775807) :
    Calls Try.prog 5 #[.slice A n c, .slice B m d, .slice T kt e] w fun e w' => e = .returned (.bool true) ∧ Below w.heap.size w w' := by
  by_cases h1 : (40 < n ∧ n < 1000) ∨ 1030 < n ∨ 40 < m ∨ 12 < kt
  · exact does_many h1
  · by_cases h2 : 1024 < n
    · exact does_refuse hx hr h2 (by omega) (by omega) (by omega)
    · exact does_walk hx hy (by omega) (by omega) (by omega) hc hr hry hz hmx hmy
end Go.Proofs.Ytopmikcljekdiaa.Ag
