/- Parts of the proof. -/
import Derived.Test.YtcjbepaclbhjaaaGreatKd1
import Derived.Test.YtcjbepaclbhjaaaGreatKd47
open List renaming set_cons_zero → zSet, set_cons_succ → sSet
/- The walk of the law ChangeVotes. -/
set_option linter.unusedSimpArgs false
set_option linter.unusedVariables false
namespace Go.Proofs.YtcjbepaclbhjaaaGreat
open Go.RowKit Go.Lib
set_option maxRecDepth 100000 in
set_option maxHeartbeats 16000000 in
theorem law3 (id vw nm bs : Int) (im : ByteArray) (ea : Option Addr) (es : List Env) (ec : Nat) (cm : Int) (la : Option Addr) (l : List Vt) (lk : Nat) (x : Vt) (w : World) (hk : RowIs w ea (es.flatMap envL)) (hl : RowIs w la (l.flatMap vtV)) (hlv : ∀ v ∈ l, v.Is w) (hx : x.Is w) :
    Calls Tryz.prog 3 #[.int .i64 id, .agg #[.int .i64 vw, .int .i64 nm, .int .i64 bs, .string im, .slice ea es.length ec], .int .i64 cm, .slice la l.length lk, .agg (vtV x).toArray] w fun e w' => e = .returned (.bool true) ∧ Below w.heap.size w w' := by
  obtain ⟨nd, nm2, bs2, nu2, cm2, va, xs, vc⟩ := x
  obtain ⟨i0, hi0, hz0, hz1, hz2⟩ := info_parts info27
  have hp := Hp.start w
  have HKA := Lib.hid hk
  have HL := Lib.hid hl
  have HLV := Lib.hid hlv
  have HVA : RowKit.Hid (RowIs w va (xs.flatMap envL)) := Lib.hid hx
  simp only [vtV]
  clear hk hl hlv hx
  go_enter Tryz.func3, Tryz.ntmps3
  by_cases h1 : xs.length ≤ 200
  · have e1 : decide ((200 : Int) < (xs.length : Int)) = false := by simp; omega
    have HXL : RowKit.Hid (xs.length ≤ 100000) := Lib.hid (by omega)
    clear h1
    go_wp2_with (first | (go_at_call 7; (with_reducible refine (big7 l la lk vw nm bs im ea es ec _ (HL.out.below hp.below)).mono ?_); rintro e w1 ⟨bb, rfl, hbb, hb⟩; replace hp := hp.call hb; clear hb; cases bb) | go_skip | (first | (refine hA1 ?_; clear hp; intro b w1 hp) | refine hL0 ?_ | (refine hS0 ?_; clear hp; intro w1 hp)))
    · obtain ⟨hl50, hk3, him, hes⟩ := hbb (by first | rfl | trivial)
      have HL50 := Lib.hid hl50
      have HLN : RowKit.Hid (l.length ≤ 1000) := Lib.hid (by omega)
      have HLN5 : RowKit.Hid (l.length ≤ 500) := Lib.hid (by omega)
      have HKL : RowKit.Hid (es.length ≤ 100000) := Lib.hid (by omega)
      have HES : RowKit.Hid (∀ v ∈ l, v.es.length ≤ 100000) := Lib.hid (fun v hv => Nat.le_trans (hes v hv) (by decide))
      have HSM : RowKit.Hid (Kv.Small ⟨vw, nm, bs, im, ea, es, ec⟩) := Lib.hid ⟨by show es.length ≤ 100000; omega, by show im.size ≤ 1000000; omega⟩
      clear hbb hes him hk3
      go_wp2_with (first | (go_at_call 8; (with_reducible refine (own158L vw nm bs im ea es ec HKL.out _ (HKA.out.below hp.below)).mono ?_); rintro e w1 ⟨ao, co, RK, rfl, hs, hp2⟩; replace hp := hp.join hp2; have HKO := Lib.hid hs.keptS; clear hp2 hs; simp only [List.cons_append, List.nil_append, List.append_assoc] at hp) | (go_at_call 9; (with_reducible refine (rown9 nd nm2 bs2 nu2 cm2 va xs vc HXL.out _ (HVA.out.below hp.below)).mono ?_); rintro e w1 ⟨am, mc, RM, rfl, hs, hp2⟩; replace hp := hp.join hp2; have HKM := Lib.hid hs; clear hp2 hs; simp only [List.cons_append, List.nil_append, List.append_assoc] at hp) | go_skip | (first | (refine hA1 ?_; clear hp; intro b w1 hp) | refine hL0 ?_ | (refine hS0 ?_; clear hp; intro w1 hp)))
      obtain ⟨b12, hb12⟩ := hp.id0
      obtain ⟨b11, hb11⟩ := hp.id1
      obtain ⟨b9, hb9⟩ := hp.id2
      obtain ⟨b6, hb6⟩ := hp.id3
      subst hb12 hb11 hb9 hb6
      have HSO : RowKit.Hid (Kv.Small ⟨vw, nm, bs, im, ao, es, co⟩) := Lib.hid ⟨HSM.out.1, HSM.out.2⟩
      go_loopg [13, 14] l.length (fun k v i wr => ∃ (q : Nat) (ys : List Vt) (R M : List Blk), k + q = l.length ∧ i = .int .i64 q ∧ RowKit.Hid (VtsSm (l.take q) ys) ∧ RowKit.Hid (OwnRow 27 6 v q (ys.flatMap vtV) R) ∧ RowKit.Hid (Kept M fun w => ∀ y ∈ ys, y.Is w) ∧ Hp w.heap.size w wr (⟨b12, [.int .i64 nd, .int .i64 nm2, .int .i64 bs2, .int .i64 nu2, .int .i64 cm2, .slice am xs.length mc], 27, 6⟩ :: ⟨b11, [.int .i64 vw, .int .i64 nm, .int .i64 bs, .string im, .slice ao es.length co], 24, 5⟩ :: ⟨b9, [.int .i64 nd, .int .i64 nm2, .int .i64 bs2, .int .i64 nu2, .int .i64 cm2, .slice va xs.length vc], 27, 6⟩ :: ⟨b6, [.int .i64 vw, .int .i64 nm, .int .i64 bs, .string im, .slice ea es.length ec], 24, 5⟩ :: (R ++ (M ++ (RK ++ RM)))))
      case atStart => exact ⟨0, [], [], [], by omega, rfl, Lib.hid ⟨by simp, fun i a b h => by simp at h⟩, Lib.hid (OwnRow.nil _ _), Lib.hid (Kept.none_ (fun w o ho => by cases ho) _), hp⟩
      case round =>
        clear hp
        obtain ⟨q, as3, R, M, hkq, rfl, HSM2, HR, HM, hp⟩ := hrel
        by_cases hlt : q < l.length
        · obtain ⟨bq, off, rfl, hx⟩ := HL.out.elems 6 vtV_len (by omega) (by omega)
          have hj := List.getElem?_eq_getElem hlt
          replace hx := hx q _ hj
          have hmem := List.getElem_mem hlt
          have hv := HLV.out _ hmem
          have hel := HES.out _ hmem
          have HJ := Lib.hid hj
          clear hj hmem
          generalize l[q] = y at hx hv hel HJ
          obtain ⟨yd, ym, yb, yu, yc, ya, ys, yk⟩ := y
          simp only [vtV] at hx
          simp only at hel
          have HX := Lib.hid hx
          have HYA : RowKit.Hid (RowIs w ya (ys.flatMap envL)) := Lib.hid hv
          have HYL := Lib.hid hel
          clear hx hv hel
          have f1 : (0 : Int) ≤ (q : Int) := by omega
          have f2 : (q : Int) < (l.length : Int) := by omega
          have HS5 : RowKit.Hid (q + 1 ≤ maxLen) := Lib.hid (by unfold maxLen; omega)
          have HS6 : RowKit.Hid ((q + 1) * 64 ≤ 140737488355328) := Lib.hid (by omega)
          go_wp2_with (first | (go_at_call 9; (with_reducible refine (rown9 yd ym yb yu yc ya ys yk HYL.out _ (HYA.out.below hp.below)).mono ?_); rintro e w1 ⟨a4, c4, R4, rfl, hk4, hp2⟩; replace hp := hp.join hp2; have HK4 := Lib.hid hk4; clear hp2 hk4; simp only [List.cons_append, List.nil_append, List.append_assoc] at hp) | ((with_reducible refine pre_build _ _ _ rfl ?_); refine wpList_buildSlice_hp hp _ _ _ rfl wy [.int .i64 yd, .int .i64 ym, .int .i64 yb, .int .i64 yu, .int .i64 yc, .slice a4 ys.length c4] 27 (by intro w; go_simp; try rfl) ?_; clear hp; intro bb w1 hp; simp only [put_some, put_none, sSet, zSet]) | ((with_reducible refine pre_append _ _ 25 rfl ?_); refine wpList_appendGrow (K := [_, _, _, _, _]) (R := R) hp _ _ _ rfl wy i0 _ 64 Tryz.underlying25 hi0 hz0 hz1 hz2 rfl (by decide) (sTm rfl) HR.out 1 1 (sTm rfl) (by rfl) (by decide) (by rfl) HS5.out HS6.out ?_; clear hp HR; intro v' R' w1 hR' hp; have HR := Lib.hid hR'; clear hR'; simp only [List.cons_append, List.nil_append] at hp; simp only [put_some, put_none, sSet, zSet]) | go_skip | (first | (refine hA1 ?_; clear hp; intro b w1 hp) | refine hL11 ?_ | (refine hS0 ?_; clear hp; intro w1 hp)))
          go_roundg (gk - 1)
          case measure => omega
          case rel => exact ⟨q + 1, as3 ++ [⟨yd, ym, yb, yu, yc, a4, ys, c4⟩], R', M ++ R4, by omega, by go_num, Lib.hid (by rw [List.take_add_one, HJ.out]; exact VtsSm.snoc HSM2.out ⟨rfl, rfl, rfl, rfl, rfl, rfl⟩), Lib.hid (by rw [List.flatMap_append]; exact HR.out), Lib.hid (kept_snoc (y := ⟨yd, ym, yb, yu, yc, a4, ys, c4⟩) HM.out HK4.out), hp.kp⟩
        · obtain rfl : q = l.length := by omega
          have f2 : decide ((l.length : Int) < (l.length : Int)) = false := by simp
          obtain ⟨aq, aqk, rfl, hkr⟩ := HR.out.kept
          have HAS : RowKit.Hid (VtsSm l as3) := Lib.hid (by have := HSM2.out; rw [List.take_length] at this; exact this)
          have HAN : RowKit.Hid (as3.length = l.length) := Lib.hid HAS.out.1.symm
          have HAE := Lib.hid (sm_bound HAS.out HES.out)
          obtain ⟨G, hG⟩ : ∃ G, R ++ (M ++ (RK ++ RM)) = G := ⟨_, rfl⟩
          have HAR : RowKit.Hid (Kept G fun w => RowIs w aq (as3.flatMap vtV)) := Lib.hid (hkr.mono (fun p hm => by rw [← hG]; simp [hm]) (fun _ h => h))
          have HAI : RowKit.Hid (Kept G fun w => ∀ y ∈ as3, y.Is w) := Lib.hid (HM.out.mono (fun p hm => by rw [← hG]; simp [hm]) (fun _ h => h))
          have HKO2 : RowKit.Hid (Kept G fun w => RowIs w ao (es.flatMap envL)) := Lib.hid (HKO.out.mono (fun p hm => by rw [← hG]; simp [hm]) (fun _ h => h))
          have HKM2 : RowKit.Hid (Kept G fun w => RowIs w am (xs.flatMap envL)) := Lib.hid (HKM.out.mono (fun p hm => by rw [← hG]; simp [hm]) (fun _ h => h))
          rw [hG] at hp
          clear hG hkr HM HR HSM2 HKO HKM hkq hlt
          have HKO := HKO2
          have HKM := HKM2
          clear HKO2 HKM2
          obtain ⟨⟨n1, n2, n3, n4, n5, fs⟩, hvq⟩ : ∃ V, voteQ (okC ⟨vw, nm, bs, im, ea, es, ec⟩) id nm bs (wrap64 (bs + es.length)) cm es = V := ⟨_, rfl⟩
          have HFS := Lib.hid (voteQ_len hvq HKL.out)
          have HVQ := Lib.hid hvq
          have HVO : RowKit.Hid (voteQ (okC ⟨vw, nm, bs, im, ao, es, co⟩) id nm bs (wrap64 (bs + es.length)) cm es = ⟨n1, n2, n3, n4, n5, fs⟩) := Lib.hid hvq
          clear hvq
          go_wp2_with (first | (go_at_call 10; (with_reducible refine (vote_Q id cm vw nm bs im ea es ec HKL.out HSM.out _ (HKA.out.below hp.below) n1 n2 n3 n4 n5 fs HVQ.out).mono ?_); rintro e w1 ⟨aa, ca, RA, rfl, hr, hp2⟩; replace hp := hp.join hp2; have HRA := Lib.hid hr; clear hp2 hr; simp only [List.cons_append, List.nil_append, List.append_assoc] at hp) | go_skip | (first | (refine hA1 ?_; clear hp; intro b w1 hp) | refine hL0 ?_ | (refine hS0 ?_; clear hp; intro w1 hp)))
          obtain ⟨b16, hb16⟩ := hp.id0
          subst hb16
          have HRA1 : RowKit.Hid (Kept RA fun w => RowIs w aa (fs.flatMap envL)) := Lib.hid (by
            obtain ⟨a', k', hv, hk⟩ := HRA.out.kept
            injection hv with hv _ _
            subst hv
            exact hk)
          clear f2
          refine wp_region_keeps [_, _] (Keeps.two hp.drew at0 at2) [] [(0, true), (1, true), (2, true), (3, true), (4, false), (5, false), (6, false)] (by kernel_rfl) (by kernel_rfl) rfl (by kernel_rfl) (fun _ _ d _ _ h => by cases d <;> exact h) ?_
          replace hp := hp.drew
          repeat' (with_reducible refine plan_is ?_); first | (with_reducible refine plan_nil ?_) | refine tk25 ?_ | (refine plan_do rfl (fun K hK => ?_); go_wp2_with (first | (go_at_call 12; (with_reducible refine (rvote_Q id cm vw nm bs im ao es co HKL.out HSO.out _ (HKO.out.at hp (fun p hm => by simp [hm])) n1 n2 n3 n4 n5 fs HVO.out).mono ?_); rintro e w1 ⟨av, cv, RV, rfl, hr, hp2⟩; replace hp := hp.join hp2; have HRV := Lib.hid hr; clear hp2 hr; simp only [List.cons_append, List.nil_append, List.append_assoc] at hp) | (go_at_call 11; (with_reducible refine (same11_yes n1 n2 n3 n4 n5 aa av fs ca cv HFS.out _ (HRA1.out.at hp (fun p hm => by simp [hm])) (HRV.out.at hp (fun p hm => by simp [hm]))).mono ?_); rintro e w1 ⟨rfl, hb⟩; replace hp := hp.call hb; clear hb) | go_skip); (refine hK.out _ _ (.inr (Keeps.two hp aa5 aa5)) ?_); clear hK K; try simp only [put_some, put_none, eval_tmp, eval_const, sSet, zSet, List.getD_cons_succ, List.getD_cons_zero, wrap_eq])
          have hq : Hp w.heap.size w w1 (⟨b16, [.int .i64 n1, .int .i64 n2, .int .i64 n3, .int .i64 n4, .int .i64 n5, .slice aa fs.length ca], 27, 6⟩ :: ⟨b12, [.int .i64 nd, .int .i64 nm2, .int .i64 bs2, .int .i64 nu2, .int .i64 cm2, .slice am xs.length mc], 27, 6⟩ :: ⟨b11, [.int .i64 vw, .int .i64 nm, .int .i64 bs, .string im, .slice ao es.length co], 24, 5⟩ :: ⟨b9, [.int .i64 nd, .int .i64 nm2, .int .i64 bs2, .int .i64 nu2, .int .i64 cm2, .slice va xs.length vc], 27, 6⟩ :: ⟨b6, [.int .i64 vw, .int .i64 nm, .int .i64 bs, .string im, .slice ea es.length ec], 24, 5⟩ :: (G ++ RA)) := hp.kp
          clear hp HRA1 HRV
          have hp := hq
          clear hq
          obtain ⟨bc, hbc⟩ : ∃ b, checkV nd nm2 bs2 nu2 cm2 xs = b := ⟨_, rfl⟩
          have HCK := Lib.hid hbc
          clear hbc
          cases bc
          all_goals
            go_wp2_with (first | (go_at_call 13; (with_reducible refine (check_lit nd nm2 bs2 nu2 cm2 va xs _ vc rfl HXL.out _ (HVA.out.below hp.below) _ HCK.out).mono ?_); rintro e w1 ⟨rfl, hb⟩; replace hp := hp.call hb; clear hb; simp only [if_true, Bool.false_eq_true, if_false]) | (go_at_call 14; (with_reducible refine (rright14L nd nm2 bs2 nu2 cm2 am xs mc _ HCK.out HXL.out _ (HKM.out.at hp (fun p hm => by simp [hm]))).mono ?_); rintro e w1 ⟨rfl, hb⟩; replace hp := hp.call hb; clear hb) | (go_at_call 15; (with_reducible refine (add_3 l la lk HLN.out HES.out nd nm2 bs2 nu2 cm2 va xs vc HXL.out _ (HL.out.below hp.below) (fun y hy => (HLV.out y hy).below hp.below) (HVA.out.below hp.below)).mono ?_); rintro e w1 ⟨g, gc, n, bs3, MB, rfl, hn, hm, he, hs, ho, hp2⟩; replace hp := hp.join hp2; have HBN := Lib.hid hn; have HBM := Lib.hid hm; have HBE := Lib.hid he; have HBS := Lib.hid hs; have HBO := Lib.hid ho; have HBR := Lib.hid (Kept.row g (bs3.flatMap vtV) 27 (gc * 6)); have HN99 : RowKit.Hid (n ≤ 1000) := Lib.hid (by have := HL50.out; omega); clear hp2 hn hm he hs ho; simp only [List.cons_append, List.nil_append, List.append_assoc] at hp) | (go_at_call 17; (with_reducible refine (radd17 as3 aq aqk _ HAN.out HLN5.out HAE.out nd nm2 bs2 nu2 cm2 am xs mc HXL.out _ (HAR.out.at hp (fun p hm => by simp [hm])) (HAI.out.at hp (fun p hm => by simp [hm])) (HKM.out.at hp (fun p hm => by simp [hm]))).mono ?_); rintro e w1 ⟨ar, rn, rk, rs, RR, rfl, hrn, hrs, hrk, hp2⟩; replace hp := hp.join hp2; have HSB := Lib.hid (add_same HAS.out (v := ⟨nd, nm2, bs2, nu2, cm2, va, xs, vc⟩) (m := ⟨nd, nm2, bs2, nu2, cm2, am, xs, mc⟩) ⟨rfl, rfl, rfl, rfl, rfl, rfl⟩ HBS.out hrs); have g1 : n = rn := (by rw [← HBN.out, ← hrn]; exact HSB.out.1); subst g1; have HRN := Lib.hid hrn; have HRK := Lib.hid hrk; clear hp2 hrn hrs hrk; simp only [List.cons_append, List.nil_append, List.append_assoc] at hp) | (go_at_call 16; (with_reducible refine (all16_yes bs3 rs _ ar n gc rk HBN.out HRN.out HN99.out HSB.out HBE.out _ (HBR.out.at hp (fun p hm => (by (rw [List.mem_singleton] at hm; subst hm; simp)))) (HRK.out.at hp (fun p hm => by simp [hm])).1 (HBO.out.kept.at hp (fun p hm => by simp [hm])) (HRK.out.at hp (fun p hm => by simp [hm])).2).mono ?_); rintro e w1 ⟨rfl, hb⟩; replace hp := hp.call hb; clear hb) | (go_at_call 18; (with_reducible refine (over1718 aa fs.length ca _ RA HRA.out HFS.out (K := ⟨g, bs3.flatMap vtV, 27, gc * 6⟩ :: ⟨b12, [.int .i64 nd, .int .i64 nm2, .int .i64 bs2, .int .i64 nu2, .int .i64 cm2, .slice am xs.length mc], 27, 6⟩ :: ⟨b11, [.int .i64 vw, .int .i64 nm, .int .i64 bs, .string im, .slice ao es.length co], 24, 5⟩ :: ⟨b9, [.int .i64 nd, .int .i64 nm2, .int .i64 bs2, .int .i64 nu2, .int .i64 cm2, .slice va xs.length vc], 27, 6⟩ :: ⟨b6, [.int .i64 vw, .int .i64 nm, .int .i64 bs, .string im, .slice ea es.length ec], 24, 5⟩ :: (G ++ MB)) hp.kp).mono ?_); clear hp; rintro e w1 ⟨rfl, D, hp⟩) | go_skip | (first | (refine hA1 ?_; clear hp; intro b w1 hp) | refine hL0 ?_ | (refine hS0 ?_; clear hp; intro w1 hp)))
            have hq : Hp w.heap.size w w1 (⟨g, bs3.flatMap vtV, 27, gc * 6⟩ :: ⟨b12, [.int .i64 nd, .int .i64 nm2, .int .i64 bs2, .int .i64 nu2, .int .i64 cm2, .slice am xs.length mc], 27, 6⟩ :: ⟨b11, [.int .i64 vw, .int .i64 nm, .int .i64 bs, .string im, .slice ao es.length co], 24, 5⟩ :: ⟨b9, [.int .i64 nd, .int .i64 nm2, .int .i64 bs2, .int .i64 nu2, .int .i64 cm2, .slice va xs.length vc], 27, 6⟩ :: ⟨b6, [.int .i64 vw, .int .i64 nm, .int .i64 bs, .string im, .slice ea es.length ec], 24, 5⟩ :: (G ++ MB)) := hp.kp
            clear hp HRK HRN HSB HBS HVQ HVO HRA
            have hp := hq
            clear hq
            go_loopg [22] n (fun k i wr => ∃ (q : Nat) (cs : List Value) (M2 : List Blk), k + q = n ∧ i = .int .i64 q ∧ RowKit.Hid (cs.length = n * 6) ∧ RowKit.Hid (∀ (i : Nat) y, q ≤ i → bs3[i]? = some y → ∀ (k : Nat) v, (vtV y)[k]? = some v → cs[i * 6 + k]? = some v) ∧ RowKit.Hid (OwnVs (bs3.drop q) M2) ∧ Hp w.heap.size w wr (⟨g, cs, 27, gc * 6⟩ :: ⟨b12, [.int .i64 nd, .int .i64 nm2, .int .i64 bs2, .int .i64 nu2, .int .i64 cm2, .slice am xs.length mc], 27, 6⟩ :: ⟨b11, [.int .i64 vw, .int .i64 nm, .int .i64 bs, .string im, .slice ao es.length co], 24, 5⟩ :: ⟨b9, [.int .i64 nd, .int .i64 nm2, .int .i64 bs2, .int .i64 nu2, .int .i64 cm2, .slice va xs.length vc], 27, 6⟩ :: ⟨b6, [.int .i64 vw, .int .i64 nm, .int .i64 bs, .string im, .slice ea es.length ec], 24, 5⟩ :: (G ++ M2)))
            case atStart => exact ⟨0, bs3.flatMap vtV, MB, by omega, rfl, Lib.hid (by rw [flat_len vtV 6 vtV_len, HBN.out]), Lib.hid (fun i y _ hy k v hv => vt_get hy hv), HBO, hp⟩
            case round =>
              clear hp
              obtain ⟨q, cs, M2, hkq, rfl, HCN, HCL, HVO, hp⟩ := hrel
              by_cases hlt : q < n
              · have hqb : q < bs3.length := by rw [HBN.out]; exact hlt
                have hj := List.getElem?_eq_getElem hqb
                generalize bs3[q] = y at hj
                obtain ⟨RY, M3, hry, hperm, hown⟩ := HVO.out.part hj
                have hc := hp.cell at0 (HCL.out q y (Nat.le_refl _) hj 5 _ rfl)
                have hyl := HBE.out y (List.mem_of_getElem? hj)
                obtain ⟨yd, ym, yb, yu, yc, ya, ys, yk⟩ := y
                have HEN : RowKit.Hid (wr.cell? ⟨g, q * 6 + 5, none⟩ = some (.slice ya ys.length yk)) := Lib.hid hc
                have HEM : RowKit.Hid (wr.cell? ⟨g, 0 + q * 6 + 5, none⟩ = some (.slice ya ys.length yk)) := Lib.hid (by rw [Nat.zero_add]; exact hc)
                have HRY : RowKit.Hid (OwnRow 47 11 (.slice ya ys.length yk) ys.length (ys.flatMap envL) RY) := Lib.hid hry
                have HYL : RowKit.Hid (ys.length ≤ 100000) := Lib.hid hyl
                have HOV := Lib.hid hown
                have HQL : RowKit.Hid (q * 6 < cs.length) := Lib.hid (by rw [HCN.out]; omega)
                have hq := hp.reorder (List.Perm.cons _ (List.Perm.cons _ (List.Perm.cons _ (List.Perm.cons _ (List.Perm.cons _ (List.Perm.append_left G hperm))))))
                clear hp hj hc hyl hry hown hperm hqb
                have hp := hq
                clear hq
                have f1 : (0 : Int) ≤ (q : Int) := by omega
                have f2 : (q : Int) < (n : Int) := by omega
                go_wp2_with (first | (refine hL21 ?_) | (go_at_call 18; (with_reducible refine (over1718 ya ys.length yk _ RY HRY.out HYL.out (K := ⟨g, cs, 27, gc * 6⟩ :: ⟨b12, [.int .i64 nd, .int .i64 nm2, .int .i64 bs2, .int .i64 nu2, .int .i64 cm2, .slice am xs.length mc], 27, 6⟩ :: ⟨b11, [.int .i64 vw, .int .i64 nm, .int .i64 bs, .string im, .slice ao es.length co], 24, 5⟩ :: ⟨b9, [.int .i64 nd, .int .i64 nm2, .int .i64 bs2, .int .i64 nu2, .int .i64 cm2, .slice va xs.length vc], 27, 6⟩ :: ⟨b6, [.int .i64 vw, .int .i64 nm, .int .i64 bs, .string im, .slice ea es.length ec], 24, 5⟩ :: (G ++ M3)) hp.kp).mono ?_); clear hp; rintro e w1 ⟨rfl, D, hp2⟩; have hp : Hp w.heap.size w w1 (⟨g, cs, 27, gc * 6⟩ :: ⟨b12, [.int .i64 nd, .int .i64 nm2, .int .i64 bs2, .int .i64 nu2, .int .i64 cm2, .slice am xs.length mc], 27, 6⟩ :: ⟨b11, [.int .i64 vw, .int .i64 nm, .int .i64 bs, .string im, .slice ao es.length co], 24, 5⟩ :: ⟨b9, [.int .i64 nd, .int .i64 nm2, .int .i64 bs2, .int .i64 nu2, .int .i64 cm2, .slice va xs.length vc], 27, 6⟩ :: ⟨b6, [.int .i64 vw, .int .i64 nm, .int .i64 bs, .string im, .slice ea es.length ec], 24, 5⟩ :: (G ++ M3)) := hp2.kp; clear hp2) | ((with_reducible refine pre_store 3 _ _ rfl ?_); refine sO hp rfl (sTm rfl) cell3 at0 ?_ (hlen := HQL.out); clear hp; intro w1 hp; simp only [sSet, zSet] at hp; simp only [put_some, put_none, sSet, zSet]) | go_skip | (first | (refine hA1 ?_; clear hp; intro b w1 hp) | refine hL0 ?_ | (refine hS0 ?_; clear hp; intro w1 hp)))
                go_roundg (gk - 1)
                case measure => omega
                case rel => exact ⟨q + 1, _, M3, by omega, congrArg (Value.int .i64) (by have := HN99.out; push_cast; unfold wrap64; omega), Lib.hid (by rw [List.length_set]; exact HCN.out), Lib.hid (fun i y hi hy k v hv => by rw [List.getElem?_set_ne (by omega)]; exact HCL.out i y (by omega) hy k v hv), HOV, hp⟩
              · obtain rfl : q = n := by omega
                have f2 : decide ((q : Int) < (q : Int)) = false := by simp
                clear hkq hlt HCN HCL HVO
                go_wp2_with (first | (go_at_call 19; (with_reducible refine (votes19 _).mono ?_); rintro e w1 ⟨rfl, hb⟩; replace hp := hp.call hb; clear hb) | (go_at_call 20; (with_reducible refine (same15S vw nm bs im ea ao es ec co HKL.out _ (HKA.out.below hp.below) (HKO.out.at hp (fun p hm => by simp [hm]))).mono ?_); rintro e w1 ⟨rfl, hb⟩; replace hp := hp.call hb; clear hb) | (go_at_call 16; (with_reducible refine (all16_yes l as3 la aq _ lk aqk rfl HAN.out HLN.out HAS.out HES.out _ (HL.out.below hp.below) (HAR.out.at hp (fun p hm => by simp [hm])) (fun y hy => (HLV.out y hy).below hp.below) (HAI.out.at hp (fun p hm => by simp [hm]))).mono ?_); rintro e w1 ⟨rfl, hb⟩; replace hp := hp.call hb; clear hb) | (go_at_call 11; (with_reducible refine (same11_yes nd nm2 bs2 nu2 cm2 va am xs vc mc HXL.out _ (HVA.out.below hp.below) (HKM.out.at hp (fun p hm => by simp [hm]))).mono ?_); rintro e w1 ⟨rfl, hb⟩; replace hp := hp.call hb; clear hb) | go_skip | (first | (refine hA1 ?_; clear hp; intro b w1 hp) | refine hL0 ?_ | (refine hS0 ?_; clear hp; intro w1 hp)))
                (go_ret; exact ⟨rfl, hp.below⟩)
    · go_wp2_with (first | go_skip | (first | (refine hA1 ?_; clear hp; intro b w1 hp) | refine hL0 ?_ | (refine hS0 ?_; clear hp; intro w1 hp)))
      (go_ret; exact ⟨rfl, hp.below⟩)
  · have e1 : decide ((200 : Int) < (xs.length : Int)) = true := by simp; omega
    clear h1
    go_wp2_with (first | (go_at_call 7; (with_reducible refine (big7 l la lk vw nm bs im ea es ec _ (HL.out.below hp.below)).mono ?_); rintro e w1 ⟨bb, rfl, hbb, hb⟩; replace hp := hp.call hb; clear hb; cases bb) | go_skip | (first | (refine hA1 ?_; clear hp; intro b w1 hp) | refine hL0 ?_ | (refine hS0 ?_; clear hp; intro w1 hp)))
    all_goals (go_wp2_with (first | go_skip | (first | (refine hA1 ?_; clear hp; intro b w1 hp) | refine hL0 ?_ | (refine hS0 ?_; clear hp; intro w1 hp))); (go_ret; exact ⟨rfl, hp.below⟩))
end Go.Proofs.YtcjbepaclbhjaaaGreat
