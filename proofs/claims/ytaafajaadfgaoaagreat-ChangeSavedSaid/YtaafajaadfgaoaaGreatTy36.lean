/- Parts of the proof. -/
import Derived.Test.YtaafajaadfgaoaaGreatTy35
/- The walk of the law ChangeSaved. -/
set_option linter.unusedSimpArgs false
set_option linter.unusedVariables false
namespace Go.Proofs.YtaafajaadfgaoaaGreat
open Go.RowKit
theorem ceWCa0 {ty : TypeId} (h : cellB Tryz.prog ty = true := by with_reducible first | exact cell3 | exact cell4 | exact cell22 | exact cell87 | exact cell37) : cellB Tryz.prog ty = true := h
theorem ceWCa1 {ty : TypeId} (h : cellB Tryz.prog ty = true := by with_reducible first | exact cell3 | exact cell4 | exact cell22 | exact cell37) : cellB Tryz.prog ty = true := h
theorem ceWCa2 {ty : TypeId} (h : cellB Tryz.prog ty = true := by with_reducible first | exact cell3 | exact cell4 | exact cell22) : cellB Tryz.prog ty = true := h
set_option maxRecDepth 100000 in
set_option maxHeartbeats 16000000 in
theorem law3 (vw nm bs : Int) (im : ByteArray) (ea : Option Addr) (es : List Env) (ec : Nat) (cm nv nb : Int) (la : Option Addr) (l : List Env) (lc : Nat) (hlc : l.length ≤ lc) (h64 : ∀ e ∈ l, I64 e.nu) (w : World) (ha : RowIs w ea (es.flatMap envL)) (hla : RowIs w la (l.flatMap envL)) :
    Calls Tryz.prog 3 #[.agg #[.int .i64 vw, .int .i64 nm, .int .i64 bs, .string im, .slice ea es.length ec], .int .i64 cm, .int .i64 nv, .int .i64 nb, .slice la l.length lc] w fun e w' => e = .returned (.bool true) ∧ Below w.heap.size w w' := by
  have hp := Hp.start w
  have HA := Lib.hid ha
  have HLA := Lib.hid hla
  have H64 := Lib.hid h64
  have HLC := Lib.hid hlc
  clear ha hla h64 hlc
  go_enter Tryz.func3, Tryz.ntmps3
  go_wp2_with (first | (go_at_call 13; (with_reducible refine (big_s vw nm bs im ea es ec la l lc _).mono ?_); rintro e w1 ⟨bb, rfl, hbb, hb⟩; replace hp := hp.call hb; clear hb; cases bb) | go_skip | ((first | ((with_reducible refine pre_alloc _ rfl ?_); refine lZ hp rfl (by with_reducible first | exact zero24 | exact zero33) ?_; clear hp; intro b w1 hp) | ((with_reducible refine pre_box _ _ rfl ?_); refine lB hp rfl (slot_tmp rfl) rfl ?_; clear hp; intro b w1 hp) | ((with_reducible refine pre_load _ _ rfl ?_); first | refine lO hp rfl (slot_tmp rfl) ceWCa0 aa5 ?_ | refine lA hp rfl (slot_tmp rfl) (by with_reducible first | exact agg24 | exact agg33) aa5 ?_) | ((with_reducible refine pre_store _ _ _ rfl ?_); (first | refine sO hp rfl (slot_tmp rfl) ceWCa0 aa5 ?_ | refine sA hp rfl (slot_tmp rfl) (slot_tmp rfl) (by with_reducible first | exact agg24 | exact agg33) aa5 ?_ | refine sG hp rfl (slot_tmp rfl) (slot_tmp rfl) (by with_reducible first | exact agg24 | exact agg33) aa5 ?_); clear hp; intro w1 hp; simp only [spl, List.set_cons_zero, List.set_cons_succ] at hp) | ((with_reducible refine pre_build _ _ _ rfl ?_); refine lS hp rfl (by intro w; go_simp; rfl) ?_; clear hp; intro b w1 hp; simp only [List.length_cons, List.length_nil, Nat.reduceAdd] at hp)); simp only [put_some, put_none, List.set_cons_succ, List.set_cons_zero]))
  · obtain ⟨s1, s2, s3, _⟩ := hbb (by first | rfl | trivial)
    clear hbb
    have HSX : RowKit.Hid (Kv.Small ⟨vw, nm, bs, im, ea, es, ec⟩) := Lib.hid ⟨by simp only; omega, by simp only; omega⟩
    have HLL : RowKit.Hid (l.length ≤ 100000) := Lib.hid (by omega)
    have HIM : RowKit.Hid (im.size ≤ 1000000) := Lib.hid (by omega)
    have HS1 : RowKit.Hid (es.length ≤ 1500) := Lib.hid (by omega)
    have HS2 := Lib.hid s2
    clear s1 s2 s3
    cases hjb : adoptB ⟨vw, nm, bs, im, ea, es, ec⟩ cm nv nb l with
    | false =>
      have HJB := Lib.hid hjb
      clear hjb
      go_wp2_with (first | (go_at_call 14; (with_reducible refine (adopt_no vw nm bs im ea es _ ec rfl cm nv nb la l _ lc rfl HSX.out HLL.out _ (HA.out.below hp.below) (HLA.out.below hp.below) HJB.out).mono ?_); rintro e w1 ⟨rfl, hb⟩; replace hp := hp.call hb; clear hb) | (go_at_call 15; (with_reducible refine (adopts15 _).mono ?_); rintro e w1 ⟨rfl, hb⟩; replace hp := hp.call hb; clear hb) | go_skip | ((first | ((with_reducible refine pre_alloc _ rfl ?_); refine lZ hp rfl (by with_reducible first | exact zero24 | exact zero33) ?_; clear hp; intro b w1 hp) | ((with_reducible refine pre_box _ _ rfl ?_); refine lB hp rfl (slot_tmp rfl) rfl ?_; clear hp; intro b w1 hp) | ((with_reducible refine pre_load _ _ rfl ?_); first | refine lO hp rfl (slot_tmp rfl) ceWCa0 aa5 ?_ | refine lA hp rfl (slot_tmp rfl) (by with_reducible first | exact agg24 | exact agg33) aa5 ?_) | ((with_reducible refine pre_store _ _ _ rfl ?_); (first | refine sO hp rfl (slot_tmp rfl) ceWCa0 aa5 ?_ | refine sA hp rfl (slot_tmp rfl) (slot_tmp rfl) (by with_reducible first | exact agg24 | exact agg33) aa5 ?_ | refine sG hp rfl (slot_tmp rfl) (slot_tmp rfl) (by with_reducible first | exact agg24 | exact agg33) aa5 ?_); clear hp; intro w1 hp; simp only [spl, List.set_cons_zero, List.set_cons_succ] at hp) | ((with_reducible refine pre_build _ _ _ rfl ?_); refine lS hp rfl (by intro w; go_simp; rfl) ?_; clear hp; intro b w1 hp; simp only [List.length_cons, List.length_nil, Nat.reduceAdd] at hp)); simp only [put_some, put_none, List.set_cons_succ, List.set_cons_zero]))
      go_ret
      exact ⟨rfl, hp.below⟩
    | true =>
      obtain ⟨b5, hb5⟩ := hp.id0
      subst hb5
      obtain ⟨f, hF⟩ : ∃ f, adoptL cm nb l = f := ⟨_, rfl⟩
      have HFF := Lib.hid hF
      have HJB := Lib.hid hjb
      obtain ⟨hb, g1, g2, g3, g4, g5⟩ := adoptB_facts hjb
      have hfo := fun ar cr => foldO_adopt hjb HLL.out H64.out ⟨0, 0, 0, 0, ⟨0, 0, 0, 0, 0, 0, 0⟩⟩ ar cr 0 ⟨#[]⟩
      have hlaw := adopt_law hjb HLL.out H64.out
      have HNU := Lib.hid (adopt_nu hjb HLL.out H64.out)
      rw [hF] at hfo hlaw
      have hf := ok_facts hb
      simp only at hf
      have g1' : bs ≤ cm ∧ cm ≤ bs + es.length := g1
      have HBS : RowKit.Hid (0 ≤ cm ∧ cm ≤ 900001500 ∧ 0 ≤ nb ∧ nb ≤ 900001500) := Lib.hid (by have := HS1.out; omega)
      have hfl : f.length ≤ l.length := by rw [← hF]; unfold adoptL; rw [List.length_drop]; omega
      have HFL : RowKit.Hid (f.length ≤ 1500) := Lib.hid (by have := HS2.out; omega)
      obtain ⟨ex, hex⟩ : ∃ ex, es.take (cm - bs).toNat ++ f = ex := ⟨_, rfl⟩
      have hK : adoptK ⟨vw, nm, bs, im, ea, es, ec⟩ cm nv nb l = ⟨nv, nv, bs, im, ea, ex, ec⟩ := by unfold adoptK; simp only; rw [hF, hex]
      have hxl : ex.length ≤ 2000 := by rw [← hex, List.length_append, List.length_take]; have := HS1.out; have := HS2.out; omega
      rw [hK] at hfo hlaw
      cases hok : okC ⟨nv, nv, bs, im, ea, ex, ec⟩ with
      | false =>
        have HFN : RowKit.Hid (∀ ar cr, foldO ⟨vw, nm, bs, im, ea, es, ec⟩ ⟨3, nv, cm, 0, ⟨#[]⟩, ⟨0, 0, 0, 0, ⟨0, 0, 0, 0, 0, 0, 0⟩⟩, ar, f, cr⟩ = (141, ⟨vw, nm, bs, im, ea, es, ec⟩)) := Lib.hid (fun ar cr => (hfo ar cr).trans (by rw [if_neg (by rw [hok]; decide)]))
        clear hfo hlaw hf g1 g1' g2 g3 g4 g5 hfl hK hxl hb hjb hF hex hok
        go_wp2_with (first | (go_at_call 14; (with_reducible refine (adopt_yes vw nm bs im ea es _ ec rfl cm nv nb la l _ lc rfl HSX.out HLL.out _ (HA.out.below hp.below) (HLA.out.below hp.below) HLC.out HJB.out f _ HFF.out rfl).mono ?_); rintro e w1 ⟨ar, cr, RR, rfl, hcr, hk, hpn⟩; replace hp := hp.join hpn; have HRR := Lib.hid hk; have HCR := Lib.hid hcr; clear hk hpn hcr; try simp only [List.cons_append, List.nil_append, List.append_assoc] at hp) | (go_at_call 16; (with_reducible refine (fold_n vw nm bs im ea es _ ec rfl 3 nv cm 0 ⟨#[]⟩ 0 0 0 0 0 0 0 0 0 0 0 ar f _ cr rfl 141 _ (by decide) (HFN.out ar cr) HS1.out HIM.out HFL.out HCR.out e0_small _ (HA.out.below hp.below) (HRR.out.at hp (fun p hm => by simp [hm]))).mono ?_); rintro e w1 ⟨rfl, hb⟩; replace hp := hp.call hb; clear hb) | (go_at_call 15; (with_reducible refine (adopts15 _).mono ?_); rintro e w1 ⟨rfl, hb⟩; replace hp := hp.call hb; clear hb) | go_skip | ((first | ((with_reducible refine pre_alloc _ rfl ?_); refine lZ hp rfl (by with_reducible first | exact zero24 | exact zero33) ?_; clear hp; intro b w1 hp) | ((with_reducible refine pre_box _ _ rfl ?_); refine lB hp rfl (slot_tmp rfl) rfl ?_; clear hp; intro b w1 hp) | ((with_reducible refine pre_load _ _ rfl ?_); first | refine lO hp rfl (slot_tmp rfl) ceWCa0 aa5 ?_ | refine lA hp rfl (slot_tmp rfl) (by with_reducible first | exact agg24 | exact agg33) aa5 ?_) | ((with_reducible refine pre_store _ _ _ rfl ?_); (first | refine sO hp rfl (slot_tmp rfl) ceWCa0 aa5 ?_ | refine sA hp rfl (slot_tmp rfl) (slot_tmp rfl) (by with_reducible first | exact agg24 | exact agg33) aa5 ?_ | refine sG hp rfl (slot_tmp rfl) (slot_tmp rfl) (by with_reducible first | exact agg24 | exact agg33) aa5 ?_); clear hp; intro w1 hp; simp only [spl, List.set_cons_zero, List.set_cons_succ] at hp) | ((with_reducible refine pre_build _ _ _ rfl ?_); refine lS hp rfl (by intro w; go_simp; rfl) ?_; clear hp; intro b w1 hp; simp only [List.length_cons, List.length_nil, Nat.reduceAdd] at hp)); simp only [put_some, put_none, List.set_cons_succ, List.set_cons_zero]))
        go_ret
        exact ⟨rfl, hp.below⟩
      | true =>
        have HFY : RowKit.Hid (∀ ar cr, foldO ⟨vw, nm, bs, im, ea, es, ec⟩ ⟨3, nv, cm, 0, ⟨#[]⟩, ⟨0, 0, 0, 0, ⟨0, 0, 0, 0, 0, 0, 0⟩⟩, ar, f, cr⟩ = (0, ⟨nv, nv, bs, im, ea, ex, ec⟩)) := Lib.hid (fun ar cr => (hfo ar cr).trans (by rw [if_pos hok]))
        obtain ⟨l1, l2, l3, l4⟩ := hlaw hok
        have HG1 : RowKit.Hid (∀ (i : Nat) e, es[i]? = some e → e.nu ≤ cm → ex[i]? = some e) := Lib.hid l1
        have HG3 := Lib.hid l3
        have HOY : RowKit.Hid (∀ a c, okC ⟨nv, nv, bs, im, a, ex, c⟩ = true) := Lib.hid (fun a c => by rw [← hok]; exact okC_sm ⟨rfl, rfl, rfl, rfl, rfl⟩)
        have HAB : RowKit.Hid (∀ a c, abvC ⟨nv, nv, bs, im, a, ex, c⟩ cm 4000 = f) := Lib.hid (fun a c => l2)
        have HSY : RowKit.Hid (∀ a c, Kv.Small ⟨nv, nv, bs, im, a, ex, c⟩) := Lib.hid (fun a c => ⟨by simp only; omega, HIM.out⟩)
        have HN1 : RowKit.Hid (-1000000000 ≤ cm) := Lib.hid (by omega)
        have l4' : bs + (ex.length : Int) = nb + (l.length : Int) := l4
        have hs2 := HS2.out
        have HE1 : RowKit.Hid (wrap64 (bs + ex.length) = bs + ex.length) := Lib.hid (by unfold wrap64; omega)
        have HE2 : RowKit.Hid (wrap64 (nb + l.length) = nb + l.length) := Lib.hid (by unfold wrap64; omega)
        have HE4 : RowKit.Hid ((bs + (ex.length : Int) == nb + (l.length : Int)) = true) := Lib.hid (by rw [l4']; exact beq_self_eq_true _)
        clear hfo hlaw hf g1 g1' g2 g3 g4 g5 hfl hK hxl hb hjb hF hex hok l1 l2 l3 l4 l4' hs2
        go_wp2_with (first | (go_at_call 14; (with_reducible refine (adopt_yes vw nm bs im ea es _ ec rfl cm nv nb la l _ lc rfl HSX.out HLL.out _ (HA.out.below hp.below) (HLA.out.below hp.below) HLC.out HJB.out f _ HFF.out rfl).mono ?_); rintro e w1 ⟨ar, cr, RR, rfl, hcr, hk, hpn⟩; replace hp := hp.join hpn; have HRR := Lib.hid hk; have HCR := Lib.hid hcr; clear hk hpn hcr; try simp only [List.cons_append, List.nil_append, List.append_assoc] at hp) | (go_at_call 16; (with_reducible refine (fold_y vw nm bs im ea es _ ec rfl 3 nv cm 0 ⟨#[]⟩ 0 0 0 0 0 0 0 0 0 0 0 ar f _ cr rfl nv nv bs im ex _ rfl ea ec (HFY.out ar cr) HS1.out HIM.out HFL.out HCR.out e0_small _ (HA.out.below hp.below) (HRR.out.at hp (fun p hm => by simp [hm]))).mono ?_); rintro e w1 ⟨ax, cx, RX, rfl, hcx, hrx, hpn⟩; replace hp := hp.join hpn; have HCX := Lib.hid hcx; have HRX := Lib.hid hrx; clear hpn hcx hrx; simp only [List.cons_append, List.nil_append, List.append_assoc] at hp) | go_skip | ((first | ((with_reducible refine pre_alloc _ rfl ?_); refine lZ hp rfl (by with_reducible first | exact zero24 | exact zero33) ?_; clear hp; intro b w1 hp) | ((with_reducible refine pre_box _ _ rfl ?_); refine lB hp rfl (slot_tmp rfl) rfl ?_; clear hp; intro b w1 hp) | ((with_reducible refine pre_load _ _ rfl ?_); first | refine lO hp rfl (slot_tmp rfl) ceWCa0 aa5 ?_ | refine lA hp rfl (slot_tmp rfl) (by with_reducible first | exact agg24 | exact agg33) aa5 ?_) | ((with_reducible refine pre_store _ _ _ rfl ?_); (first | refine sO hp rfl (slot_tmp rfl) ceWCa0 aa5 ?_ | refine sA hp rfl (slot_tmp rfl) (slot_tmp rfl) (by with_reducible first | exact agg24 | exact agg33) aa5 ?_ | refine sG hp rfl (slot_tmp rfl) (slot_tmp rfl) (by with_reducible first | exact agg24 | exact agg33) aa5 ?_); clear hp; intro w1 hp; simp only [spl, List.set_cons_zero, List.set_cons_succ] at hp) | ((with_reducible refine pre_build _ _ _ rfl ?_); refine lS hp rfl (by intro w; go_simp; rfl) ?_; clear hp; intro b w1 hp; simp only [List.length_cons, List.length_nil, Nat.reduceAdd] at hp)); simp only [put_some, put_none, List.set_cons_succ, List.set_cons_zero]))
        obtain ⟨b13, hb13⟩ := hp.id0
        subst hb13
        have HR13 := Lib.hid (hp.rowIs (i := 0) rfl)
        have HK13 := Lib.hid HR13.out.fixC
        have hp5 : Hp w.heap.size w w1 [⟨b5, [.int .i64 vw, .int .i64 nm, .int .i64 bs, .string im, .slice ea es.length ec], 24, 5⟩] := hp.sub (by simp)
        have HK5 := Lib.hid (hp5.rowIs (i := 0) rfl).fixC
        have HA1 := Lib.hid (HA.out.below hp.below)
        have HLA1 := Lib.hid (HLA.out.below hp.below)
        have HY1 : RowKit.Hid (RowIs w1 ax (ex.flatMap envL)) := Lib.hid (HRX.out.keptS.at hp (fun p hm => by simp [hm]))
        have HBW := Lib.hid hp.below
        clear hp5 HA HLA
        replace hp := Hp.start w1
        go_loopg [15] es.length (fun k i wr => ∃ q : Nat, k + q = es.length ∧ i = .int .i64 q ∧ Hp w1.heap.size w1 wr [])
        case atStart => exact ⟨0, by omega, rfl, hp⟩
        case round =>
          clear hp
          obtain ⟨q, hkq, rfl, hp⟩ := hrel
          by_cases hlt : q < es.length
          · obtain ⟨bk, okk, rfl, hx⟩ := HA1.out.elems 11 envL_len11 (by omega) (by omega)
            have hj := List.getElem?_eq_getElem hlt
            replace hx := hx q _ hj
            have hg := HG1.out q _ hj
            clear hj
            generalize es[q] = en at hx hg
            obtain ⟨nu2, vi2, cl2, sq2, ⟨k2, h2, i2, n2, c2, v2, t2⟩⟩ := en
            simp only at hg
            have f1 : (0 : Int) ≤ (q : Int) := by omega
            have f2 : (q : Int) < (es.length : Int) := by omega
            by_cases hs : nu2 ≤ cm
            · have hgq := hg hs
              have hlt2 := (List.getElem?_eq_some_iff.1 hgq).1
              obtain ⟨by2, oy2, rfl, hy⟩ := HY1.out.elems 11 envL_len11 (by omega) (by omega)
              replace hy := hy q _ hgq
              simp only [envL, opL, List.cons_append, List.nil_append] at hx hy
              have HX := Lib.hid hx
              have HY := Lib.hid hy
              have f3 : decide (nu2 ≤ cm) = true := by simpa using hs
              have f4 : (q : Int) < (ex.length : Int) := by omega
              have f5 : decide ((ex.length : Int) ≤ (q : Int)) = false := by simp; omega
              have f6 : decide (ex.length ≤ q) = false := by simp; omega
              clear hx hy hg hgq hs hlt2
              go_wp2_with (first | go_skip | ((first | ((with_reducible refine pre_box _ _ rfl ?_); refine lB hp rfl (slot_tmp rfl) rfl ?_; clear hp; intro b w1 hp) | ((with_reducible refine pre_load _ _ rfl ?_); first | refine lO hp rfl (slot_tmp rfl) ceWCa1 aa5 ?_ | refine lRO hp rfl (slot_tmp rfl) ceWCa1 (by first | exact HX.out 0 _ rfl | exact HX.out 1 _ rfl | exact HX.out 2 _ rfl | exact HX.out 3 _ rfl | exact HX.out 4 _ rfl) ?_ | refine lRO hp rfl (slot_tmp rfl) ceWCa1 (by first | exact HY.out 0 _ rfl | exact HY.out 1 _ rfl | exact HY.out 2 _ rfl | exact HY.out 3 _ rfl | exact HY.out 4 _ rfl) ?_ | refine lRO hp rfl (slot_tmp rfl) ceWCa1 (by first | exact HK5.out 0 _ rfl | exact HK5.out 1 _ rfl | exact HK5.out 2 _ rfl | exact HK5.out 3 _ rfl | exact HK5.out 4 _ rfl) ?_ | refine lRO hp rfl (slot_tmp rfl) ceWCa1 (by first | exact HK13.out 0 _ rfl | exact HK13.out 1 _ rfl | exact HK13.out 2 _ rfl | exact HK13.out 3 _ rfl | exact HK13.out 4 _ rfl) ?_ | refine lA hp rfl (slot_tmp rfl) (by with_reducible first | exact agg24 | exact agg31) aa5 ?_ | refine lR hp rfl (slot_tmp rfl) (by with_reducible first | exact agg24 | exact agg31) HX.out ?_ | refine lR hp rfl (slot_tmp rfl) (by with_reducible first | exact agg24 | exact agg31) HY.out ?_ | refine lR hp rfl (slot_tmp rfl) (by with_reducible first | exact agg24 | exact agg31) HK5.out ?_ | refine lR hp rfl (slot_tmp rfl) (by with_reducible first | exact agg24 | exact agg31) HK13.out ?_) | ((with_reducible refine pre_store _ _ _ rfl ?_); (first | refine sO hp rfl (slot_tmp rfl) ceWCa1 aa5 ?_ | refine sA hp rfl (slot_tmp rfl) (slot_tmp rfl) (by with_reducible first | exact agg24 | exact agg31) aa5 ?_ | refine sG hp rfl (slot_tmp rfl) (slot_tmp rfl) (by with_reducible first | exact agg24 | exact agg31) aa5 ?_); clear hp; intro w1 hp; simp only [spl, List.set_cons_zero, List.set_cons_succ] at hp)); simp only [put_some, put_none, List.set_cons_succ, List.set_cons_zero]))
              refine wp_region_keeps _ (Keeps.all hp.drew) [] [(0, true), (1, true), (2, true), (3, true), (4, true), (5, true), (6, true), (7, true), (8, true), (9, true), (10, true), (11, true), (12, true), (13, true), (14, true), (15, true), (16, true), (17, true)] (by kernel_rfl) (by kernel_rfl) rfl (by kernel_rfl) (fun _ _ d _ _ h => by cases d <;> exact h) ?_
              replace hp := hp.drew
              repeat' (with_reducible refine plan_is ?_); first | (with_reducible refine plan_nil ?_) | ((with_reducible refine plan_t ?_); refine plan_tk rfl ?_; (first | ((with_reducible refine tk_gd _ _ rfl ?_); refine tS (by first | exact wanted_no rfl rfl rfl rfl | exact wanted_nu rfl rfl rfl rfl) ?_) | ((with_reducible refine tk_mv _ rfl ?_); refine tM rfl ?_) | ((with_reducible refine tk_ld _ _ rfl ?_); first | refine tA rfl (slot_tmp rfl) agg31 aa5 ?_ | refine tO rfl (slot_tmp rfl) cell22 aa5 ?_ | refine tR rfl (slot_tmp rfl) agg31 HX.out ?_ | refine tRO rfl (slot_tmp rfl) cell22 (HX.out 0 _ rfl) ?_ | refine tRO rfl (slot_tmp rfl) cell22 (HX.out 1 _ rfl) ?_ | refine tRO rfl (slot_tmp rfl) cell22 (HX.out 2 _ rfl) ?_ | refine tRO rfl (slot_tmp rfl) cell22 (HX.out 3 _ rfl) ?_ | refine tRO rfl (slot_tmp rfl) cell22 (HX.out 4 _ rfl) ?_ | refine tR rfl (slot_tmp rfl) agg31 HY.out ?_ | refine tRO rfl (slot_tmp rfl) cell22 (HY.out 0 _ rfl) ?_ | refine tRO rfl (slot_tmp rfl) cell22 (HY.out 1 _ rfl) ?_ | refine tRO rfl (slot_tmp rfl) cell22 (HY.out 2 _ rfl) ?_ | refine tRO rfl (slot_tmp rfl) cell22 (HY.out 3 _ rfl) ?_ | refine tRO rfl (slot_tmp rfl) cell22 (HY.out 4 _ rfl) ?_ | refine tR rfl (slot_tmp rfl) agg31 HK5.out ?_ | refine tRO rfl (slot_tmp rfl) cell22 (HK5.out 0 _ rfl) ?_ | refine tRO rfl (slot_tmp rfl) cell22 (HK5.out 1 _ rfl) ?_ | refine tRO rfl (slot_tmp rfl) cell22 (HK5.out 2 _ rfl) ?_ | refine tRO rfl (slot_tmp rfl) cell22 (HK5.out 3 _ rfl) ?_ | refine tRO rfl (slot_tmp rfl) cell22 (HK5.out 4 _ rfl) ?_ | refine tR rfl (slot_tmp rfl) agg31 HK13.out ?_ | refine tRO rfl (slot_tmp rfl) cell22 (HK13.out 0 _ rfl) ?_ | refine tRO rfl (slot_tmp rfl) cell22 (HK13.out 1 _ rfl) ?_ | refine tRO rfl (slot_tmp rfl) cell22 (HK13.out 2 _ rfl) ?_ | refine tRO rfl (slot_tmp rfl) cell22 (HK13.out 3 _ rfl) ?_ | refine tRO rfl (slot_tmp rfl) cell22 (HK13.out 4 _ rfl) ?_) | refine tG (fun w _ => (by go_simp; try rfl)) ?_); try simp only [put_some, put_none, eval_tmp, eval_const, List.set_cons_succ, List.set_cons_zero, List.getD_cons_succ, List.getD_cons_zero, wrap_eq])
              go_wp2_with (first | go_skip | ((first | ((with_reducible refine pre_box _ _ rfl ?_); refine lB hp rfl (slot_tmp rfl) rfl ?_; clear hp; intro b w1 hp) | ((with_reducible refine pre_load _ _ rfl ?_); first | refine lO hp rfl (slot_tmp rfl) ceWCa1 aa5 ?_ | refine lRO hp rfl (slot_tmp rfl) ceWCa1 (by first | exact HX.out 0 _ rfl | exact HX.out 1 _ rfl | exact HX.out 2 _ rfl | exact HX.out 3 _ rfl | exact HX.out 4 _ rfl) ?_ | refine lRO hp rfl (slot_tmp rfl) ceWCa1 (by first | exact HY.out 0 _ rfl | exact HY.out 1 _ rfl | exact HY.out 2 _ rfl | exact HY.out 3 _ rfl | exact HY.out 4 _ rfl) ?_ | refine lRO hp rfl (slot_tmp rfl) ceWCa1 (by first | exact HK5.out 0 _ rfl | exact HK5.out 1 _ rfl | exact HK5.out 2 _ rfl | exact HK5.out 3 _ rfl | exact HK5.out 4 _ rfl) ?_ | refine lRO hp rfl (slot_tmp rfl) ceWCa1 (by first | exact HK13.out 0 _ rfl | exact HK13.out 1 _ rfl | exact HK13.out 2 _ rfl | exact HK13.out 3 _ rfl | exact HK13.out 4 _ rfl) ?_ | refine lA hp rfl (slot_tmp rfl) (by with_reducible first | exact agg24 | exact agg31) aa5 ?_ | refine lR hp rfl (slot_tmp rfl) (by with_reducible first | exact agg24 | exact agg31) HX.out ?_ | refine lR hp rfl (slot_tmp rfl) (by with_reducible first | exact agg24 | exact agg31) HY.out ?_ | refine lR hp rfl (slot_tmp rfl) (by with_reducible first | exact agg24 | exact agg31) HK5.out ?_ | refine lR hp rfl (slot_tmp rfl) (by with_reducible first | exact agg24 | exact agg31) HK13.out ?_) | ((with_reducible refine pre_store _ _ _ rfl ?_); (first | refine sO hp rfl (slot_tmp rfl) ceWCa1 aa5 ?_ | refine sA hp rfl (slot_tmp rfl) (slot_tmp rfl) (by with_reducible first | exact agg24 | exact agg31) aa5 ?_ | refine sG hp rfl (slot_tmp rfl) (slot_tmp rfl) (by with_reducible first | exact agg24 | exact agg31) aa5 ?_); clear hp; intro w1 hp; simp only [spl, List.set_cons_zero, List.set_cons_succ] at hp)); simp only [put_some, put_none, List.set_cons_succ, List.set_cons_zero]))
              go_roundg (gk - 1)
              case measure => omega
              case rel => exact ⟨q + 1, by omega, congrArg (Value.int .i64) (by have := HS1.out; push_cast; unfold wrap64; omega), hp⟩
            · simp only [envL, opL, List.cons_append, List.nil_append] at hx
              have HX := Lib.hid hx
              have HY := Lib.hid hx
              have f3 : decide (nu2 ≤ cm) = false := by simpa using hs
              clear hx hg hs
              go_wp2_with (first | (go_at_call 17; (with_reducible refine (above17L nv nv bs im ax ex cx cm 4000 f (HOY.out _ _) (HAB.out _ _) (HSY.out _ _) HCX.out HN1.out _ (HY1.out.below hp.below)).mono ?_); rintro e w1 ⟨ab, cb, RB, rfl, _, hrb, hpn⟩; replace hp := hp.join hpn; have HRM := Lib.hid hrb; clear hpn hrb; try simp only [List.cons_append, List.nil_append, List.append_assoc] at hp) | go_skip | ((first | ((with_reducible refine pre_box _ _ rfl ?_); refine lB hp rfl (slot_tmp rfl) rfl ?_; clear hp; intro b w1 hp) | ((with_reducible refine pre_load _ _ rfl ?_); first | refine lO hp rfl (slot_tmp rfl) ceWCa1 aa5 ?_ | refine lRO hp rfl (slot_tmp rfl) ceWCa1 (by first | exact HX.out 0 _ rfl | exact HX.out 1 _ rfl | exact HX.out 2 _ rfl | exact HX.out 3 _ rfl | exact HX.out 4 _ rfl) ?_ | refine lRO hp rfl (slot_tmp rfl) ceWCa1 (by first | exact HY.out 0 _ rfl | exact HY.out 1 _ rfl | exact HY.out 2 _ rfl | exact HY.out 3 _ rfl | exact HY.out 4 _ rfl) ?_ | refine lRO hp rfl (slot_tmp rfl) ceWCa1 (by first | exact HK5.out 0 _ rfl | exact HK5.out 1 _ rfl | exact HK5.out 2 _ rfl | exact HK5.out 3 _ rfl | exact HK5.out 4 _ rfl) ?_ | refine lRO hp rfl (slot_tmp rfl) ceWCa1 (by first | exact HK13.out 0 _ rfl | exact HK13.out 1 _ rfl | exact HK13.out 2 _ rfl | exact HK13.out 3 _ rfl | exact HK13.out 4 _ rfl) ?_ | refine lA hp rfl (slot_tmp rfl) (by with_reducible first | exact agg24 | exact agg31) aa5 ?_ | refine lR hp rfl (slot_tmp rfl) (by with_reducible first | exact agg24 | exact agg31) HX.out ?_ | refine lR hp rfl (slot_tmp rfl) (by with_reducible first | exact agg24 | exact agg31) HY.out ?_ | refine lR hp rfl (slot_tmp rfl) (by with_reducible first | exact agg24 | exact agg31) HK5.out ?_ | refine lR hp rfl (slot_tmp rfl) (by with_reducible first | exact agg24 | exact agg31) HK13.out ?_) | ((with_reducible refine pre_store _ _ _ rfl ?_); (first | refine sO hp rfl (slot_tmp rfl) ceWCa1 aa5 ?_ | refine sA hp rfl (slot_tmp rfl) (slot_tmp rfl) (by with_reducible first | exact agg24 | exact agg31) aa5 ?_ | refine sG hp rfl (slot_tmp rfl) (slot_tmp rfl) (by with_reducible first | exact agg24 | exact agg31) aa5 ?_); clear hp; intro w1 hp; simp only [spl, List.set_cons_zero, List.set_cons_succ] at hp)); simp only [put_some, put_none, List.set_cons_succ, List.set_cons_zero]))
              have HWB : RowKit.Hid (RowIs w1 ab (f.flatMap envL)) := Lib.hid (HRM.out.keptS.at hp (fun p hm => by simp [hm]))
              have HBV : RowKit.Hid (Below w.heap.size w w1) := Lib.hid (HBW.out.trans (hp.below.mono HBW.out.size))
              have HL3 := Lib.hid (HLA1.out.below hp.below)
              have HY3 := Lib.hid (HY1.out.below hp.below)
              have HK13B := Lib.hid (HR13.out.below hp.below).fixC
              clear HX HY HK13 HK5
              have HK13 := HK13B
              replace hp := Hp.start w1
              go_loopg [17] l.length (fun k i wr => ∃ q : Nat, k + q = l.length ∧ i = .int .i64 q ∧ Hp w1.heap.size w1 wr [])
              case atStart => exact ⟨0, by omega, rfl, hp⟩
              case round =>
                clear hp
                obtain ⟨q, hkq, rfl, hp⟩ := hrel
                by_cases hlt : q < l.length
                · obtain ⟨bq, off, rfl, hx⟩ := HL3.out.elems 11 envL_len11 (by omega) (by omega)
                  have hj := List.getElem?_eq_getElem hlt
                  replace hx := hx q _ hj
                  have hnu := HNU.out q hlt
                  have hg3 := HG3.out q _ hj
                  clear hj
                  generalize l[q] = en at hx hnu hg3
                  obtain ⟨nu2, vi2, cl2, sq2, ⟨k2, h2, i2, n2, c2, v2, t2⟩⟩ := en
                  simp only at hnu hg3
                  obtain ⟨t1, t2', t3, t4⟩ := HBS.out
                  have f1 : (0 : Int) ≤ (q : Int) := by omega
                  have f2 : (q : Int) < (l.length : Int) := by omega
                  have hs2 := HS2.out
                  have e7 : wrap64 (nu2 - cm) = nu2 - cm := by unfold wrap64; omega
                  by_cases hs : 0 ≤ nu2 - cm - 1
                  · obtain ⟨d, hd⟩ : ∃ d : Nat, nu2 - cm - 1 = (d : Int) := ⟨(nu2 - cm - 1).toNat, by omega⟩
                    have hgq := hg3 hs
                    rw [show (nu2 - cm - 1).toNat = d by omega] at hgq
                    have hlt2 := (List.getElem?_eq_some_iff.1 hgq).1
                    obtain ⟨bq2, off2, rfl, hy⟩ := HWB.out.elems 11 envL_len11 (by omega) (by omega)
                    replace hy := hy d _ hgq
                    simp only [envL, opL, List.cons_append, List.nil_append] at hx hy
                    have HX := Lib.hid hx
                    have HY := Lib.hid hy
                    have e8 : wrap64 (nu2 - cm - 1) = (d : Int) := by unfold wrap64; omega
                    have f3 : (0 : Int) ≤ (d : Int) := by omega
                    have f4 : (d : Int) < (f.length : Int) := by omega
                    have f5 : decide ((f.length : Int) ≤ (d : Int)) = false := by simp; omega
                    have f6 : decide (f.length ≤ d) = false := by simp; omega
                    clear hx hy hgq hs hlt2 hg3 hd hnu t1 t2' t3 t4 hs2
                    go_wp2_with (first | go_skip | ((first | ((with_reducible refine pre_box _ _ rfl ?_); refine lB hp rfl (slot_tmp rfl) rfl ?_; clear hp; intro b w1 hp) | ((with_reducible refine pre_load _ _ rfl ?_); first | refine lO hp rfl (slot_tmp rfl) ceWCa2 aa5 ?_ | first | refine lRO hp rfl (slot_tmp rfl) ceWCa2 (HX.out 0 _ rfl) ?_ | first | refine lRO hp rfl (slot_tmp rfl) ceWCa2 (HY.out 0 _ rfl) ?_ | refine lA hp rfl (slot_tmp rfl) agg31 aa5 ?_ | refine lR hp rfl (slot_tmp rfl) agg31 HX.out ?_ | refine lR hp rfl (slot_tmp rfl) agg31 HY.out ?_) | ((with_reducible refine pre_store _ _ _ rfl ?_); (first | refine sO hp rfl (slot_tmp rfl) ceWCa2 aa5 ?_ | refine sA hp rfl (slot_tmp rfl) (slot_tmp rfl) agg31 aa5 ?_ | refine sG hp rfl (slot_tmp rfl) (slot_tmp rfl) agg31 aa5 ?_); clear hp; intro w1 hp; simp only [spl, List.set_cons_zero, List.set_cons_succ] at hp)); simp only [put_some, put_none, List.set_cons_succ, List.set_cons_zero]))
                    simp only [e8]
                    refine wp_region_keeps _ (Keeps.all hp.drew) [] [(0, true), (1, true), (2, true), (3, true), (4, true), (5, true), (6, true), (7, true), (8, true), (9, true), (10, true), (11, true), (12, true), (13, true), (14, true), (15, true), (16, true), (17, true), (18, true)] (by kernel_rfl) (by kernel_rfl) rfl (by kernel_rfl) (fun _ _ d _ _ h => by cases d <;> exact h) ?_
                    replace hp := hp.drew
                    repeat' (with_reducible refine plan_is ?_); first | (with_reducible refine plan_nil ?_) | ((with_reducible refine plan_t ?_); refine plan_tk rfl ?_; (first | ((with_reducible refine tk_gd _ _ rfl ?_); refine tS (by first | exact wanted_no rfl rfl rfl rfl | exact wanted_nu rfl rfl rfl rfl) ?_) | ((with_reducible refine tk_mv _ rfl ?_); refine tM rfl ?_) | ((with_reducible refine tk_ld _ _ rfl ?_); first | refine tA rfl (slot_tmp rfl) agg31 aa5 ?_ | refine tR rfl (slot_tmp rfl) agg31 HX.out ?_ | refine tR rfl (slot_tmp rfl) agg31 HY.out ?_) | refine tG (fun w _ => (by go_simp; try rfl)) ?_); try simp only [put_some, put_none, eval_tmp, eval_const, List.set_cons_succ, List.set_cons_zero, List.getD_cons_succ, List.getD_cons_zero, wrap_eq])
                    go_wp2_with (first | go_skip | ((first | ((with_reducible refine pre_box _ _ rfl ?_); refine lB hp rfl (slot_tmp rfl) rfl ?_; clear hp; intro b w1 hp) | ((with_reducible refine pre_load _ _ rfl ?_); first | refine lO hp rfl (slot_tmp rfl) ceWCa2 aa5 ?_ | first | refine lRO hp rfl (slot_tmp rfl) ceWCa2 (HX.out 0 _ rfl) ?_ | first | refine lRO hp rfl (slot_tmp rfl) ceWCa2 (HY.out 0 _ rfl) ?_ | refine lA hp rfl (slot_tmp rfl) agg31 aa5 ?_ | refine lR hp rfl (slot_tmp rfl) agg31 HX.out ?_ | refine lR hp rfl (slot_tmp rfl) agg31 HY.out ?_) | ((with_reducible refine pre_store _ _ _ rfl ?_); (first | refine sO hp rfl (slot_tmp rfl) ceWCa2 aa5 ?_ | refine sA hp rfl (slot_tmp rfl) (slot_tmp rfl) agg31 aa5 ?_ | refine sG hp rfl (slot_tmp rfl) (slot_tmp rfl) agg31 aa5 ?_); clear hp; intro w1 hp; simp only [spl, List.set_cons_zero, List.set_cons_succ] at hp)); simp only [put_some, put_none, List.set_cons_succ, List.set_cons_zero]))
                    go_roundg (gk - 1)
                    case measure => omega
                    case rel => exact ⟨q + 1, by omega, congrArg (Value.int .i64) (by have := HS2.out; push_cast; unfold wrap64; omega), hp⟩
                  · simp only [envL, opL, List.cons_append, List.nil_append] at hx
                    have HX := Lib.hid hx
                    have HY := Lib.hid hx
                    obtain ⟨d, hd⟩ : ∃ d : Int, nu2 - cm - 1 = d := ⟨_, rfl⟩
                    have e8 : wrap64 (nu2 - cm - 1) = d := by unfold wrap64; omega
                    have f3 : decide (0 ≤ d) = false := by simp; omega
                    clear hx hs hg3 hnu t1 t2' t3 t4 hs2 hd
                    go_wp2_with (first | go_skip | ((first | ((with_reducible refine pre_box _ _ rfl ?_); refine lB hp rfl (slot_tmp rfl) rfl ?_; clear hp; intro b w1 hp) | ((with_reducible refine pre_load _ _ rfl ?_); first | refine lO hp rfl (slot_tmp rfl) ceWCa2 aa5 ?_ | first | refine lRO hp rfl (slot_tmp rfl) ceWCa2 (HX.out 0 _ rfl) ?_ | first | refine lRO hp rfl (slot_tmp rfl) ceWCa2 (HY.out 0 _ rfl) ?_ | refine lA hp rfl (slot_tmp rfl) agg31 aa5 ?_ | refine lR hp rfl (slot_tmp rfl) agg31 HX.out ?_ | refine lR hp rfl (slot_tmp rfl) agg31 HY.out ?_) | ((with_reducible refine pre_store _ _ _ rfl ?_); (first | refine sO hp rfl (slot_tmp rfl) ceWCa2 aa5 ?_ | refine sA hp rfl (slot_tmp rfl) (slot_tmp rfl) agg31 aa5 ?_ | refine sG hp rfl (slot_tmp rfl) (slot_tmp rfl) agg31 aa5 ?_); clear hp; intro w1 hp; simp only [spl, List.set_cons_zero, List.set_cons_succ] at hp)); simp only [put_some, put_none, List.set_cons_succ, List.set_cons_zero]))
                    simp only [e8]
                    refine wp_region_keeps _ (Keeps.all hp.drew) [] [(0, true), (1, true), (2, true), (3, true), (4, true), (5, true), (6, true), (7, true), (8, true), (9, true), (10, true), (11, true), (12, true), (13, true), (14, true), (15, true), (16, true), (17, true), (18, true)] (by kernel_rfl) (by kernel_rfl) rfl (by kernel_rfl) (fun _ _ d _ _ h => by cases d <;> exact h) ?_
                    replace hp := hp.drew
                    repeat' (with_reducible refine plan_is ?_); first | (with_reducible refine plan_nil ?_) | ((with_reducible refine plan_t ?_); refine plan_tk rfl ?_; (first | ((with_reducible refine tk_gd _ _ rfl ?_); refine tS (by first | exact wanted_no rfl rfl rfl rfl | exact wanted_nu rfl rfl rfl rfl) ?_) | ((with_reducible refine tk_mv _ rfl ?_); refine tM rfl ?_) | ((with_reducible refine tk_ld _ _ rfl ?_); first | refine tA rfl (slot_tmp rfl) agg31 aa5 ?_ | refine tR rfl (slot_tmp rfl) agg31 HX.out ?_ | refine tR rfl (slot_tmp rfl) agg31 HY.out ?_) | refine tG (fun w _ => (by go_simp; try rfl)) ?_); try simp only [put_some, put_none, eval_tmp, eval_const, List.set_cons_succ, List.set_cons_zero, List.getD_cons_succ, List.getD_cons_zero, wrap_eq])
                    go_wp2_with (first | go_skip | ((first | ((with_reducible refine pre_box _ _ rfl ?_); refine lB hp rfl (slot_tmp rfl) rfl ?_; clear hp; intro b w1 hp) | ((with_reducible refine pre_load _ _ rfl ?_); first | refine lO hp rfl (slot_tmp rfl) ceWCa2 aa5 ?_ | first | refine lRO hp rfl (slot_tmp rfl) ceWCa2 (HX.out 0 _ rfl) ?_ | first | refine lRO hp rfl (slot_tmp rfl) ceWCa2 (HY.out 0 _ rfl) ?_ | refine lA hp rfl (slot_tmp rfl) agg31 aa5 ?_ | refine lR hp rfl (slot_tmp rfl) agg31 HX.out ?_ | refine lR hp rfl (slot_tmp rfl) agg31 HY.out ?_) | ((with_reducible refine pre_store _ _ _ rfl ?_); (first | refine sO hp rfl (slot_tmp rfl) ceWCa2 aa5 ?_ | refine sA hp rfl (slot_tmp rfl) (slot_tmp rfl) agg31 aa5 ?_ | refine sG hp rfl (slot_tmp rfl) (slot_tmp rfl) agg31 aa5 ?_); clear hp; intro w1 hp; simp only [spl, List.set_cons_zero, List.set_cons_succ] at hp)); simp only [put_some, put_none, List.set_cons_succ, List.set_cons_zero]))
                    go_roundg (gk - 1)
                    case measure => omega
                    case rel => exact ⟨q + 1, by omega, congrArg (Value.int .i64) (by have := HS2.out; push_cast; unfold wrap64; omega), hp⟩
                · obtain rfl : q = l.length := by omega
                  have f2 : decide ((l.length : Int) < (l.length : Int)) = false := by simp
                  have e1 := HE1.out
                  have e2 := HE2.out
                  have e4 := HE4.out
                  clear hkq hlt
                  go_wp2_with (first | (go_at_call 15; (with_reducible refine (adopts15 _).mono ?_); rintro e w1 ⟨rfl, hb⟩; replace hp := hp.call hb; clear hb) | (go_at_call 18; (with_reducible refine (last18L nv nv bs im ax ex cx _ (HOY.out _ _) (HSY.out _ _) _ (HY3.out.below hp.below)).mono ?_); rintro e w1 ⟨rfl, hb⟩; replace hp := hp.call hb; clear hb; simp only [if_true]) | go_skip | ((first | ((with_reducible refine pre_box _ _ rfl ?_); refine lB hp rfl (slot_tmp rfl) rfl ?_; clear hp; intro b w1 hp) | ((with_reducible refine pre_load _ _ rfl ?_); first | refine lO hp rfl (slot_tmp rfl) ceWCa1 aa5 ?_ | refine lRO hp rfl (slot_tmp rfl) ceWCa1 (by first | exact HK13.out 0 _ rfl | exact HK13.out 1 _ rfl | exact HK13.out 2 _ rfl | exact HK13.out 3 _ rfl | exact HK13.out 4 _ rfl) ?_ | refine lA hp rfl (slot_tmp rfl) agg24 aa5 ?_ | refine lR hp rfl (slot_tmp rfl) agg24 HK13.out ?_) | ((with_reducible refine pre_store _ _ _ rfl ?_); (first | refine sO hp rfl (slot_tmp rfl) ceWCa1 aa5 ?_ | refine sA hp rfl (slot_tmp rfl) (slot_tmp rfl) agg24 aa5 ?_ | refine sG hp rfl (slot_tmp rfl) (slot_tmp rfl) agg24 aa5 ?_); clear hp; intro w1 hp; simp only [spl, List.set_cons_zero, List.set_cons_succ] at hp)); simp only [put_some, put_none, List.set_cons_succ, List.set_cons_zero]))
                  go_ret
                  exact ⟨rfl, HBV.out.trans (hp.below.mono HBV.out.size)⟩
          · obtain rfl : q = es.length := by omega
            have f2 : decide ((es.length : Int) < (es.length : Int)) = false := by simp
            have HX := HK13
            have HY := HK13
            clear hkq hlt
            go_wp2_with (first | (go_at_call 17; (with_reducible refine (above17L nv nv bs im ax ex cx cm 4000 f (HOY.out _ _) (HAB.out _ _) (HSY.out _ _) HCX.out HN1.out _ (HY1.out.below hp.below)).mono ?_); rintro e w1 ⟨ab, cb, RB, rfl, _, hrb, hpn⟩; replace hp := hp.join hpn; have HRM := Lib.hid hrb; clear hpn hrb; try simp only [List.cons_append, List.nil_append, List.append_assoc] at hp) | go_skip | ((first | ((with_reducible refine pre_box _ _ rfl ?_); refine lB hp rfl (slot_tmp rfl) rfl ?_; clear hp; intro b w1 hp) | ((with_reducible refine pre_load _ _ rfl ?_); first | refine lO hp rfl (slot_tmp rfl) ceWCa1 aa5 ?_ | refine lRO hp rfl (slot_tmp rfl) ceWCa1 (by first | exact HX.out 0 _ rfl | exact HX.out 1 _ rfl | exact HX.out 2 _ rfl | exact HX.out 3 _ rfl | exact HX.out 4 _ rfl) ?_ | refine lRO hp rfl (slot_tmp rfl) ceWCa1 (by first | exact HY.out 0 _ rfl | exact HY.out 1 _ rfl | exact HY.out 2 _ rfl | exact HY.out 3 _ rfl | exact HY.out 4 _ rfl) ?_ | refine lRO hp rfl (slot_tmp rfl) ceWCa1 (by first | exact HK5.out 0 _ rfl | exact HK5.out 1 _ rfl | exact HK5.out 2 _ rfl | exact HK5.out 3 _ rfl | exact HK5.out 4 _ rfl) ?_ | refine lRO hp rfl (slot_tmp rfl) ceWCa1 (by first | exact HK13.out 0 _ rfl | exact HK13.out 1 _ rfl | exact HK13.out 2 _ rfl | exact HK13.out 3 _ rfl | exact HK13.out 4 _ rfl) ?_ | refine lA hp rfl (slot_tmp rfl) (by with_reducible first | exact agg24 | exact agg31) aa5 ?_ | refine lR hp rfl (slot_tmp rfl) (by with_reducible first | exact agg24 | exact agg31) HX.out ?_ | refine lR hp rfl (slot_tmp rfl) (by with_reducible first | exact agg24 | exact agg31) HY.out ?_ | refine lR hp rfl (slot_tmp rfl) (by with_reducible first | exact agg24 | exact agg31) HK5.out ?_ | refine lR hp rfl (slot_tmp rfl) (by with_reducible first | exact agg24 | exact agg31) HK13.out ?_) | ((with_reducible refine pre_store _ _ _ rfl ?_); (first | refine sO hp rfl (slot_tmp rfl) ceWCa1 aa5 ?_ | refine sA hp rfl (slot_tmp rfl) (slot_tmp rfl) (by with_reducible first | exact agg24 | exact agg31) aa5 ?_ | refine sG hp rfl (slot_tmp rfl) (slot_tmp rfl) (by with_reducible first | exact agg24 | exact agg31) aa5 ?_); clear hp; intro w1 hp; simp only [spl, List.set_cons_zero, List.set_cons_succ] at hp)); simp only [put_some, put_none, List.set_cons_succ, List.set_cons_zero]))
            have HWB : RowKit.Hid (RowIs w1 ab (f.flatMap envL)) := Lib.hid (HRM.out.keptS.at hp (fun p hm => by simp [hm]))
            have HBV : RowKit.Hid (Below w.heap.size w w1) := Lib.hid (HBW.out.trans (hp.below.mono HBW.out.size))
            have HL3 := Lib.hid (HLA1.out.below hp.below)
            have HY3 := Lib.hid (HY1.out.below hp.below)
            have HK13B := Lib.hid (HR13.out.below hp.below).fixC
            clear HX HY HK13 HK5
            have HK13 := HK13B
            replace hp := Hp.start w1
            go_loopg [17] l.length (fun k i wr => ∃ q : Nat, k + q = l.length ∧ i = .int .i64 q ∧ Hp w1.heap.size w1 wr [])
            case atStart => exact ⟨0, by omega, rfl, hp⟩
            case round =>
              clear hp
              obtain ⟨q, hkq, rfl, hp⟩ := hrel
              by_cases hlt : q < l.length
              · obtain ⟨bq, off, rfl, hx⟩ := HL3.out.elems 11 envL_len11 (by omega) (by omega)
                have hj := List.getElem?_eq_getElem hlt
                replace hx := hx q _ hj
                have hnu := HNU.out q hlt
                have hg3 := HG3.out q _ hj
                clear hj
                generalize l[q] = en at hx hnu hg3
                obtain ⟨nu2, vi2, cl2, sq2, ⟨k2, h2, i2, n2, c2, v2, t2⟩⟩ := en
                simp only at hnu hg3
                obtain ⟨t1, t2', t3, t4⟩ := HBS.out
                have f1 : (0 : Int) ≤ (q : Int) := by omega
                have f2 : (q : Int) < (l.length : Int) := by omega
                have hs2 := HS2.out
                have e7 : wrap64 (nu2 - cm) = nu2 - cm := by unfold wrap64; omega
                by_cases hs : 0 ≤ nu2 - cm - 1
                · obtain ⟨d, hd⟩ : ∃ d : Nat, nu2 - cm - 1 = (d : Int) := ⟨(nu2 - cm - 1).toNat, by omega⟩
                  have hgq := hg3 hs
                  rw [show (nu2 - cm - 1).toNat = d by omega] at hgq
                  have hlt2 := (List.getElem?_eq_some_iff.1 hgq).1
                  obtain ⟨bq2, off2, rfl, hy⟩ := HWB.out.elems 11 envL_len11 (by omega) (by omega)
                  replace hy := hy d _ hgq
                  simp only [envL, opL, List.cons_append, List.nil_append] at hx hy
                  have HX := Lib.hid hx
                  have HY := Lib.hid hy
                  have e8 : wrap64 (nu2 - cm - 1) = (d : Int) := by unfold wrap64; omega
                  have f3 : (0 : Int) ≤ (d : Int) := by omega
                  have f4 : (d : Int) < (f.length : Int) := by omega
                  have f5 : decide ((f.length : Int) ≤ (d : Int)) = false := by simp; omega
                  have f6 : decide (f.length ≤ d) = false := by simp; omega
                  clear hx hy hgq hs hlt2 hg3 hd hnu t1 t2' t3 t4 hs2
                  go_wp2_with (first | go_skip | ((first | ((with_reducible refine pre_box _ _ rfl ?_); refine lB hp rfl (slot_tmp rfl) rfl ?_; clear hp; intro b w1 hp) | ((with_reducible refine pre_load _ _ rfl ?_); first | refine lO hp rfl (slot_tmp rfl) ceWCa2 aa5 ?_ | first | refine lRO hp rfl (slot_tmp rfl) ceWCa2 (HX.out 0 _ rfl) ?_ | first | refine lRO hp rfl (slot_tmp rfl) ceWCa2 (HY.out 0 _ rfl) ?_ | refine lA hp rfl (slot_tmp rfl) agg31 aa5 ?_ | refine lR hp rfl (slot_tmp rfl) agg31 HX.out ?_ | refine lR hp rfl (slot_tmp rfl) agg31 HY.out ?_) | ((with_reducible refine pre_store _ _ _ rfl ?_); (first | refine sO hp rfl (slot_tmp rfl) ceWCa2 aa5 ?_ | refine sA hp rfl (slot_tmp rfl) (slot_tmp rfl) agg31 aa5 ?_ | refine sG hp rfl (slot_tmp rfl) (slot_tmp rfl) agg31 aa5 ?_); clear hp; intro w1 hp; simp only [spl, List.set_cons_zero, List.set_cons_succ] at hp)); simp only [put_some, put_none, List.set_cons_succ, List.set_cons_zero]))
                  simp only [e8]
                  refine wp_region_keeps _ (Keeps.all hp.drew) [] [(0, true), (1, true), (2, true), (3, true), (4, true), (5, true), (6, true), (7, true), (8, true), (9, true), (10, true), (11, true), (12, true), (13, true), (14, true), (15, true), (16, true), (17, true), (18, true)] (by kernel_rfl) (by kernel_rfl) rfl (by kernel_rfl) (fun _ _ d _ _ h => by cases d <;> exact h) ?_
                  replace hp := hp.drew
                  repeat' (with_reducible refine plan_is ?_); first | (with_reducible refine plan_nil ?_) | ((with_reducible refine plan_t ?_); refine plan_tk rfl ?_; (first | ((with_reducible refine tk_gd _ _ rfl ?_); refine tS (by first | exact wanted_no rfl rfl rfl rfl | exact wanted_nu rfl rfl rfl rfl) ?_) | ((with_reducible refine tk_mv _ rfl ?_); refine tM rfl ?_) | ((with_reducible refine tk_ld _ _ rfl ?_); first | refine tA rfl (slot_tmp rfl) agg31 aa5 ?_ | refine tR rfl (slot_tmp rfl) agg31 HX.out ?_ | refine tR rfl (slot_tmp rfl) agg31 HY.out ?_) | refine tG (fun w _ => (by go_simp; try rfl)) ?_); try simp only [put_some, put_none, eval_tmp, eval_const, List.set_cons_succ, List.set_cons_zero, List.getD_cons_succ, List.getD_cons_zero, wrap_eq])
                  go_wp2_with (first | go_skip | ((first | ((with_reducible refine pre_box _ _ rfl ?_); refine lB hp rfl (slot_tmp rfl) rfl ?_; clear hp; intro b w1 hp) | ((with_reducible refine pre_load _ _ rfl ?_); first | refine lO hp rfl (slot_tmp rfl) ceWCa2 aa5 ?_ | first | refine lRO hp rfl (slot_tmp rfl) ceWCa2 (HX.out 0 _ rfl) ?_ | first | refine lRO hp rfl (slot_tmp rfl) ceWCa2 (HY.out 0 _ rfl) ?_ | refine lA hp rfl (slot_tmp rfl) agg31 aa5 ?_ | refine lR hp rfl (slot_tmp rfl) agg31 HX.out ?_ | refine lR hp rfl (slot_tmp rfl) agg31 HY.out ?_) | ((with_reducible refine pre_store _ _ _ rfl ?_); (first | refine sO hp rfl (slot_tmp rfl) ceWCa2 aa5 ?_ | refine sA hp rfl (slot_tmp rfl) (slot_tmp rfl) agg31 aa5 ?_ | refine sG hp rfl (slot_tmp rfl) (slot_tmp rfl) agg31 aa5 ?_); clear hp; intro w1 hp; simp only [spl, List.set_cons_zero, List.set_cons_succ] at hp)); simp only [put_some, put_none, List.set_cons_succ, List.set_cons_zero]))
                  go_roundg (gk - 1)
                  case measure => omega
                  case rel => exact ⟨q + 1, by omega, congrArg (Value.int .i64) (by have := HS2.out; push_cast; unfold wrap64; omega), hp⟩
                · simp only [envL, opL, List.cons_append, List.nil_append] at hx
                  have HX := Lib.hid hx
                  have HY := Lib.hid hx
                  obtain ⟨d, hd⟩ : ∃ d : Int, nu2 - cm - 1 = d := ⟨_, rfl⟩
                  have e8 : wrap64 (nu2 - cm - 1) = d := by unfold wrap64; omega
                  have f3 : decide (0 ≤ d) = false := by simp; omega
                  clear hx hs hg3 hnu t1 t2' t3 t4 hs2 hd
                  go_wp2_with (first | go_skip | ((first | ((with_reducible refine pre_box _ _ rfl ?_); refine lB hp rfl (slot_tmp rfl) rfl ?_; clear hp; intro b w1 hp) | ((with_reducible refine pre_load _ _ rfl ?_); first | refine lO hp rfl (slot_tmp rfl) ceWCa2 aa5 ?_ | first | refine lRO hp rfl (slot_tmp rfl) ceWCa2 (HX.out 0 _ rfl) ?_ | first | refine lRO hp rfl (slot_tmp rfl) ceWCa2 (HY.out 0 _ rfl) ?_ | refine lA hp rfl (slot_tmp rfl) agg31 aa5 ?_ | refine lR hp rfl (slot_tmp rfl) agg31 HX.out ?_ | refine lR hp rfl (slot_tmp rfl) agg31 HY.out ?_) | ((with_reducible refine pre_store _ _ _ rfl ?_); (first | refine sO hp rfl (slot_tmp rfl) ceWCa2 aa5 ?_ | refine sA hp rfl (slot_tmp rfl) (slot_tmp rfl) agg31 aa5 ?_ | refine sG hp rfl (slot_tmp rfl) (slot_tmp rfl) agg31 aa5 ?_); clear hp; intro w1 hp; simp only [spl, List.set_cons_zero, List.set_cons_succ] at hp)); simp only [put_some, put_none, List.set_cons_succ, List.set_cons_zero]))
                  simp only [e8]
                  refine wp_region_keeps _ (Keeps.all hp.drew) [] [(0, true), (1, true), (2, true), (3, true), (4, true), (5, true), (6, true), (7, true), (8, true), (9, true), (10, true), (11, true), (12, true), (13, true), (14, true), (15, true), (16, true), (17, true), (18, true)] (by kernel_rfl) (by kernel_rfl) rfl (by kernel_rfl) (fun _ _ d _ _ h => by cases d <;> exact h) ?_
                  replace hp := hp.drew
                  repeat' (with_reducible refine plan_is ?_); first | (with_reducible refine plan_nil ?_) | ((with_reducible refine plan_t ?_); refine plan_tk rfl ?_; (first | ((with_reducible refine tk_gd _ _ rfl ?_); refine tS (by first | exact wanted_no rfl rfl rfl rfl | exact wanted_nu rfl rfl rfl rfl) ?_) | ((with_reducible refine tk_mv _ rfl ?_); refine tM rfl ?_) | ((with_reducible refine tk_ld _ _ rfl ?_); first | refine tA rfl (slot_tmp rfl) agg31 aa5 ?_ | refine tR rfl (slot_tmp rfl) agg31 HX.out ?_ | refine tR rfl (slot_tmp rfl) agg31 HY.out ?_) | refine tG (fun w _ => (by go_simp; try rfl)) ?_); try simp only [put_some, put_none, eval_tmp, eval_const, List.set_cons_succ, List.set_cons_zero, List.getD_cons_succ, List.getD_cons_zero, wrap_eq])
                  go_wp2_with (first | go_skip | ((first | ((with_reducible refine pre_box _ _ rfl ?_); refine lB hp rfl (slot_tmp rfl) rfl ?_; clear hp; intro b w1 hp) | ((with_reducible refine pre_load _ _ rfl ?_); first | refine lO hp rfl (slot_tmp rfl) ceWCa2 aa5 ?_ | first | refine lRO hp rfl (slot_tmp rfl) ceWCa2 (HX.out 0 _ rfl) ?_ | first | refine lRO hp rfl (slot_tmp rfl) ceWCa2 (HY.out 0 _ rfl) ?_ | refine lA hp rfl (slot_tmp rfl) agg31 aa5 ?_ | refine lR hp rfl (slot_tmp rfl) agg31 HX.out ?_ | refine lR hp rfl (slot_tmp rfl) agg31 HY.out ?_) | ((with_reducible refine pre_store _ _ _ rfl ?_); (first | refine sO hp rfl (slot_tmp rfl) ceWCa2 aa5 ?_ | refine sA hp rfl (slot_tmp rfl) (slot_tmp rfl) agg31 aa5 ?_ | refine sG hp rfl (slot_tmp rfl) (slot_tmp rfl) agg31 aa5 ?_); clear hp; intro w1 hp; simp only [spl, List.set_cons_zero, List.set_cons_succ] at hp)); simp only [put_some, put_none, List.set_cons_succ, List.set_cons_zero]))
                  go_roundg (gk - 1)
                  case measure => omega
                  case rel => exact ⟨q + 1, by omega, congrArg (Value.int .i64) (by have := HS2.out; push_cast; unfold wrap64; omega), hp⟩
              · obtain rfl : q = l.length := by omega
                have f2 : decide ((l.length : Int) < (l.length : Int)) = false := by simp
                have e1 := HE1.out
                have e2 := HE2.out
                have e4 := HE4.out
                clear hkq hlt
                go_wp2_with (first | (go_at_call 15; (with_reducible refine (adopts15 _).mono ?_); rintro e w1 ⟨rfl, hb⟩; replace hp := hp.call hb; clear hb) | (go_at_call 18; (with_reducible refine (last18L nv nv bs im ax ex cx _ (HOY.out _ _) (HSY.out _ _) _ (HY3.out.below hp.below)).mono ?_); rintro e w1 ⟨rfl, hb⟩; replace hp := hp.call hb; clear hb; simp only [if_true]) | go_skip | ((first | ((with_reducible refine pre_box _ _ rfl ?_); refine lB hp rfl (slot_tmp rfl) rfl ?_; clear hp; intro b w1 hp) | ((with_reducible refine pre_load _ _ rfl ?_); first | refine lO hp rfl (slot_tmp rfl) ceWCa1 aa5 ?_ | refine lRO hp rfl (slot_tmp rfl) ceWCa1 (by first | exact HK13.out 0 _ rfl | exact HK13.out 1 _ rfl | exact HK13.out 2 _ rfl | exact HK13.out 3 _ rfl | exact HK13.out 4 _ rfl) ?_ | refine lA hp rfl (slot_tmp rfl) agg24 aa5 ?_ | refine lR hp rfl (slot_tmp rfl) agg24 HK13.out ?_) | ((with_reducible refine pre_store _ _ _ rfl ?_); (first | refine sO hp rfl (slot_tmp rfl) ceWCa1 aa5 ?_ | refine sA hp rfl (slot_tmp rfl) (slot_tmp rfl) agg24 aa5 ?_ | refine sG hp rfl (slot_tmp rfl) (slot_tmp rfl) agg24 aa5 ?_); clear hp; intro w1 hp; simp only [spl, List.set_cons_zero, List.set_cons_succ] at hp)); simp only [put_some, put_none, List.set_cons_succ, List.set_cons_zero]))
                go_ret
                exact ⟨rfl, HBV.out.trans (hp.below.mono HBV.out.size)⟩
  · go_wp2_with (first | go_skip | ((first | ((with_reducible refine pre_alloc _ rfl ?_); refine lZ hp rfl (by with_reducible first | exact zero24 | exact zero33) ?_; clear hp; intro b w1 hp) | ((with_reducible refine pre_box _ _ rfl ?_); refine lB hp rfl (slot_tmp rfl) rfl ?_; clear hp; intro b w1 hp) | ((with_reducible refine pre_load _ _ rfl ?_); first | refine lO hp rfl (slot_tmp rfl) ceWCa0 aa5 ?_ | refine lA hp rfl (slot_tmp rfl) (by with_reducible first | exact agg24 | exact agg33) aa5 ?_) | ((with_reducible refine pre_store _ _ _ rfl ?_); (first | refine sO hp rfl (slot_tmp rfl) ceWCa0 aa5 ?_ | refine sA hp rfl (slot_tmp rfl) (slot_tmp rfl) (by with_reducible first | exact agg24 | exact agg33) aa5 ?_ | refine sG hp rfl (slot_tmp rfl) (slot_tmp rfl) (by with_reducible first | exact agg24 | exact agg33) aa5 ?_); clear hp; intro w1 hp; simp only [spl, List.set_cons_zero, List.set_cons_succ] at hp) | ((with_reducible refine pre_build _ _ _ rfl ?_); refine lS hp rfl (by intro w; go_simp; rfl) ?_; clear hp; intro b w1 hp; simp only [List.length_cons, List.length_nil, Nat.reduceAdd] at hp)); simp only [put_some, put_none, List.set_cons_succ, List.set_cons_zero]))
    go_ret
    exact ⟨rfl, hp.below⟩
end Go.Proofs.YtaafajaadfgaoaaGreat
