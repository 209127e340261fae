/- Parts of the proof. -/
import Derived.Test.YtaafajaadfgaoaaGreatAk28
open List renaming set_cons_zero → zSet, set_cons_succ → sSet
/- The walks of change's Adopt (its record's heap is one's own) and of over. -/
set_option linter.unusedSimpArgs false
set_option linter.unusedVariables false
namespace Go.Proofs.YtaafajaadfgaoaaGreat
open Go.RowKit
theorem ceQAa0 {ty : TypeId} (h : cellB Tryz.prog ty = true := by with_reducible first | exact cell3 | exact cell4 | exact cell22 | exact cell37) : cellB Tryz.prog ty = true := h
def AdoptPostO (w : World) (nv cm : Int) (l : List Env) (m : Nat) (e : Ending) (w' : World) : Prop := ∃ (a : Option Addr) (c : Nat) (R : List Blk), e = .returned (.tuple #[.agg #[.int .i64 3, .int .i64 nv, .int .i64 cm, .int .i64 0, .string ⟨#[]⟩, .int .i64 0, .int .i64 0, .int .i64 0, .int .i64 0, .int .i64 0, .int .i64 0, .int .i64 0, .int .i64 0, .int .i64 0, .int .i64 0, .int .i64 0, .slice a m c], .bool true]) ∧ OwnRow 31 11 (.slice a m c) m (l.flatMap envL) R ∧ Hp w.heap.size w w' R
set_option maxRecDepth 100000 in
set_option maxHeartbeats 8000000 in
theorem adopt17O_yes (vw nm bs : Int) (im : ByteArray) (ea : Option Addr) (es : List Env) (ec : Nat) (cm nv nb : Int) (la : Option Addr) (l : List Env) (lc : Nat) (hs : Kv.Small ⟨vw, nm, bs, im, ea, es, ec⟩) (hl : l.length ≤ 100000) (w : World) (ha : RowIs w ea (es.flatMap envL)) (hla : RowIs w la (l.flatMap envL)) (hlc : l.length ≤ lc) (h : adoptB ⟨vw, nm, bs, im, ea, es, ec⟩ cm nv nb l = true) (m : Nat) (hm : (adoptL cm nb l).length = m) : Calls Tryz.prog 14 #[.agg #[.int .i64 vw, .int .i64 nm, .int .i64 bs, .string im, .slice ea es.length ec], .int .i64 cm, .int .i64 nv, .int .i64 nb, .slice la l.length lc] w (AdoptPostO w nv cm (adoptL cm nb l) m) := by
  have hp := Hp.start w; have HSS := Lib.hid hs; have HA := Lib.hid ha; have HLA := Lib.hid hla; have HL := Lib.hid hl; clear hs ha hla hl
  obtain ⟨hb, h1, h2, h3, h4, h5⟩ := adoptB_facts h
  have hf := ok_facts hb
  simp only at hf h1 h2
  have h1' : bs ≤ cm ∧ cm ≤ bs + es.length := h1
  have HB := Lib.hid hb
  have HW1 : RowKit.Hid (inM cm bs (bs + es.length) = true) := Lib.hid (by simp [inM]; omega)
  have HW2 : RowKit.Hid (inM nv vw 900000000 = true) := Lib.hid (by simp [inM]; omega)
  have HW3 : RowKit.Hid (inM nb 0 cm = true) := Lib.hid (by simp [inM]; omega)
  have HF := Lib.hid h4
  have hsm : es.length ≤ 100000 := HSS.out.1
  have e0 : wrap64 (bs + es.length) = bs + es.length := by unfold wrap64; omega
  have e2 : decide ((l.length : Int) < cm - nb) = false := by simp; omega
  obtain ⟨k, hk⟩ : ∃ k : Nat, cm - nb = k := ⟨(cm - nb).toNat, by omega⟩
  have hkl : k ≤ l.length := by omega
  have had : adoptL cm nb l = l.drop k := by unfold adoptL; rw [show (cm - nb).toNat = k by omega]
  rw [had] at hm ⊢
  rw [hk] at e2
  have e1 : wrap64 (cm - nb) = (k : Int) := by unfold wrap64; omega
  have hm2 : m = l.length - k := by rw [← hm, List.length_drop]
  have HML : RowKit.Hid (m ≤ 100000) := Lib.hid (by have := HL.out; omega)
  have HDM := Lib.hid hm
  have f1 : (0 : Int) ≤ (k : Int) := by omega
  have f2 : (k : Int) ≤ (lc : Int) := by omega
  have f3 : (k : Int) ≤ (l.length : Int) := by omega
  have f5 : l.length - k = m := hm2.symm
  have f6 : (0 : Int) ≤ (lc : Int) := by omega
  clear had h hb h1 h1' h2 h3 h4 h5 hf hsm hk
  rcases Nat.eq_zero_or_pos l.length with hz | hpos
  · obtain rfl : l = [] := List.eq_nil_of_length_eq_zero hz
    obtain rfl : k = 0 := by simpa using hkl
    obtain rfl : m = 0 := by simpa using hm.symm
    clear hz hkl hm hm2 f1 f2 f3 f5
    go_enter Tryz.func14, Tryz.ntmps14
    go_wp2_with (first | go_skip | ((first | ((with_reducible refine pre_alloc _ rfl ?_); refine lZ hp rfl zero33 ?_; clear hp; intro b w1 hp) | ((with_reducible refine pre_box _ _ rfl ?_); refine lB hp rfl (sTm rfl) rfl ?_; clear hp; intro b w1 hp) | ((with_reducible refine pre_load _ _ rfl ?_); first | refine lO hp rfl (sTm rfl) ceQAa0 aa5 ?_ | refine lA hp rfl (sTm rfl) (by with_reducible first | exact agg24 | exact agg33) aa5 ?_) | ((with_reducible refine pre_store _ _ _ rfl ?_); (first | refine sO hp rfl (sTm rfl) ceQAa0 aa5 ?_ | refine sA hp rfl (sTm rfl) (sTm rfl) (by with_reducible first | exact agg24 | exact agg33) aa5 ?_ | refine sG hp rfl (sTm rfl) (sTm rfl) (by with_reducible first | exact agg24 | exact agg33) aa5 ?_); clear hp; intro w1 hp; simp only [spl, zSet, sSet] at hp) | ((with_reducible refine pre_build _ _ _ rfl ?_); refine lS hp rfl (by intro w; go_simp; rfl) ?_; clear hp; intro b w1 hp; simp only [List.length_cons, List.length_nil, Nat.reduceAdd] at hp)); simp only [put_some, put_none, sSet, zSet]))
    refine wp_region_keeps _ (Keeps.all hp.drew) [] [(0, true), (1, false), (2, true), (3, true), (4, true), (5, true), (6, true), (7, true), (8, false), (9, false), (10, true), (11, true), (12, true), (13, true), (14, true), (15, true), (16, false), (17, true), (18, true), (19, false)] (by kernel_rfl) (by kernel_rfl) rfl (by kernel_rfl) (fun _ _ d _ _ h => by cases d <;> exact h) ?_
    replace hp := hp.drew
    repeat' (with_reducible refine plan_is ?_); first | (with_reducible refine plan_nil ?_) | ((with_reducible refine plan_t ?_); refine plan_tk rfl ?_; (first | ((with_reducible refine tk_gd _ _ rfl ?_); refine tS (by first | exact wanted_no rfl rfl rfl rfl | exact wanted_nu rfl rfl rfl rfl) ?_) | ((with_reducible refine tk_mv _ rfl ?_); refine tM rfl ?_) | ((with_reducible refine tk_ld _ _ rfl ?_); first | refine tA rfl (sTm rfl) agg24 aa5 ?_ | refine tO rfl (sTm rfl) cell3 aa5 ?_) | refine tG (fun w _ => (by go_simp; try rfl)) ?_); try simp only [put_some, put_none, eval_tmp, eval_const, sSet, zSet, List.getD_cons_succ, List.getD_cons_zero, wrap_eq, e0]) | (refine plan_do rfl (fun K hK => ?_); go_wp2_with (first | (go_at_call 64; (with_reducible refine (check64L vw nm bs im ea es ec _ HB.out HSS.out _ (HA.out.below hp.below)).mono ?_); rintro e w1 ⟨rfl, hb⟩; replace hp := hp.call hb; clear hb; simp only [if_true, Bool.false_eq_true, if_false]) | (go_at_call 18; (with_reducible refine (last18L vw nm bs im ea es ec _ HB.out HSS.out _ (HA.out.below hp.below)).mono ?_); rintro e w1 ⟨rfl, hb⟩; replace hp := hp.call hb; clear hb; simp only [if_true, Bool.false_eq_true, if_false]) | (go_at_call 65; (with_reducible refine (within65 cm bs (bs + es.length) _ HW1.out _).mono ?_); rintro e w' ⟨rfl, rfl⟩) | (go_at_call 65; (with_reducible refine (within65 nv vw 900000000 _ HW2.out _).mono ?_); rintro e w' ⟨rfl, rfl⟩) | go_skip); (refine hK.out _ _ (.inr (kall hp)) ?_); clear hK K; try simp only [put_some, put_none, eval_tmp, eval_const, sSet, zSet, List.getD_cons_succ, List.getD_cons_zero, wrap_eq, e0])
    go_wp2_with (first | (go_at_call 65; (with_reducible refine (within65 nb 0 cm _ HW3.out _).mono ?_); rintro e w' ⟨rfl, rfl⟩) | (go_at_call 66; (with_reducible refine (row_nil nb _ lc _).mono ?_); rintro e w1 ⟨rfl, hb⟩; replace hp := hp.call hb; clear hb) | (go_at_call 67; (with_reducible refine (clone_ents [] _ 0 _ rfl (by decide) _ (RowIs.nil _ _)).mono ?_); rintro e w1 ⟨ad, cd, RD, rfl, hcd, hrd, hpn⟩; replace hp := hp.join hpn; have HCD := Lib.hid hcd; have HRD := Lib.hid hrd; clear hpn hcd hrd; simp only [List.cons_append, List.nil_append] at hp) | go_skip | ((first | ((with_reducible refine pre_alloc _ rfl ?_); refine lZ hp rfl zero33 ?_; clear hp; intro b w1 hp) | ((with_reducible refine pre_box _ _ rfl ?_); refine lB hp rfl (sTm rfl) rfl ?_; clear hp; intro b w1 hp) | ((with_reducible refine pre_load _ _ rfl ?_); first | refine lO hp rfl (sTm rfl) ceQAa0 aa5 ?_ | refine lA hp rfl (sTm rfl) (by with_reducible first | exact agg24 | exact agg33) aa5 ?_) | ((with_reducible refine pre_store _ _ _ rfl ?_); (first | refine sO hp rfl (sTm rfl) ceQAa0 aa5 ?_ | refine sA hp rfl (sTm rfl) (sTm rfl) (by with_reducible first | exact agg24 | exact agg33) aa5 ?_ | refine sG hp rfl (sTm rfl) (sTm rfl) (by with_reducible first | exact agg24 | exact agg33) aa5 ?_); clear hp; intro w1 hp; simp only [spl, zSet, sSet] at hp) | ((with_reducible refine pre_build _ _ _ rfl ?_); refine lS hp rfl (by intro w; go_simp; rfl) ?_; clear hp; intro b w1 hp; simp only [List.length_cons, List.length_nil, Nat.reduceAdd] at hp)); simp only [put_some, put_none, sSet, zSet]))
    exact bodyPost_ret (results_many (rs := [.cell 10 33, .tmp 11]) Tryz.results14 (.cell rfl (hp.loadAgg agg33 at0 0 _ (by rfl) (by rfl)) (.tmp rfl .nil))) rfl ⟨ad, cd, RD, rfl, HRD.out, hp.tail.tail⟩
  obtain ⟨bq, off, rfl, _⟩ := HLA.out.elems 11 envL_len11 hpos (by decide)
  by_cases h : lc = k
  · subst h
    obtain rfl : m = 0 := by omega
    have hd : l.drop lc = [] := List.drop_eq_nil_of_le (by omega)
    rw [hd]
    have f7 : l.length - lc = 0 := by omega
    clear hkl hm hm2 hpos hd HDM f5
    go_enter Tryz.func14, Tryz.ntmps14
    go_wp2_with (first | go_skip | ((first | ((with_reducible refine pre_alloc _ rfl ?_); refine lZ hp rfl zero33 ?_; clear hp; intro b w1 hp) | ((with_reducible refine pre_box _ _ rfl ?_); refine lB hp rfl (sTm rfl) rfl ?_; clear hp; intro b w1 hp) | ((with_reducible refine pre_load _ _ rfl ?_); first | refine lO hp rfl (sTm rfl) ceQAa0 aa5 ?_ | refine lA hp rfl (sTm rfl) (by with_reducible first | exact agg24 | exact agg33) aa5 ?_) | ((with_reducible refine pre_store _ _ _ rfl ?_); (first | refine sO hp rfl (sTm rfl) ceQAa0 aa5 ?_ | refine sA hp rfl (sTm rfl) (sTm rfl) (by with_reducible first | exact agg24 | exact agg33) aa5 ?_ | refine sG hp rfl (sTm rfl) (sTm rfl) (by with_reducible first | exact agg24 | exact agg33) aa5 ?_); clear hp; intro w1 hp; simp only [spl, zSet, sSet] at hp) | ((with_reducible refine pre_build _ _ _ rfl ?_); refine lS hp rfl (by intro w; go_simp; rfl) ?_; clear hp; intro b w1 hp; simp only [List.length_cons, List.length_nil, Nat.reduceAdd] at hp)); simp only [put_some, put_none, sSet, zSet]))
    refine wp_region_keeps _ (Keeps.all hp.drew) [] [(0, true), (1, false), (2, true), (3, true), (4, true), (5, true), (6, true), (7, true), (8, false), (9, false), (10, true), (11, true), (12, true), (13, true), (14, true), (15, true), (16, false), (17, true), (18, true), (19, false)] (by kernel_rfl) (by kernel_rfl) rfl (by kernel_rfl) (fun _ _ d _ _ h => by cases d <;> exact h) ?_
    replace hp := hp.drew
    repeat' (with_reducible refine plan_is ?_); first | (with_reducible refine plan_nil ?_) | ((with_reducible refine plan_t ?_); refine plan_tk rfl ?_; (first | ((with_reducible refine tk_gd _ _ rfl ?_); refine tS (by first | exact wanted_no rfl rfl rfl rfl | exact wanted_nu rfl rfl rfl rfl) ?_) | ((with_reducible refine tk_mv _ rfl ?_); refine tM rfl ?_) | ((with_reducible refine tk_ld _ _ rfl ?_); first | refine tA rfl (sTm rfl) agg24 aa5 ?_ | refine tO rfl (sTm rfl) cell3 aa5 ?_) | refine tG (fun w _ => (by go_simp; try rfl)) ?_); try simp only [put_some, put_none, eval_tmp, eval_const, sSet, zSet, List.getD_cons_succ, List.getD_cons_zero, wrap_eq, e0]) | (refine plan_do rfl (fun K hK => ?_); go_wp2_with (first | (go_at_call 64; (with_reducible refine (check64L vw nm bs im ea es ec _ HB.out HSS.out _ (HA.out.below hp.below)).mono ?_); rintro e w1 ⟨rfl, hb⟩; replace hp := hp.call hb; clear hb; simp only [if_true, Bool.false_eq_true, if_false]) | (go_at_call 18; (with_reducible refine (last18L vw nm bs im ea es ec _ HB.out HSS.out _ (HA.out.below hp.below)).mono ?_); rintro e w1 ⟨rfl, hb⟩; replace hp := hp.call hb; clear hb; simp only [if_true, Bool.false_eq_true, if_false]) | (go_at_call 65; (with_reducible refine (within65 cm bs (bs + es.length) _ HW1.out _).mono ?_); rintro e w' ⟨rfl, rfl⟩) | (go_at_call 65; (with_reducible refine (within65 nv vw 900000000 _ HW2.out _).mono ?_); rintro e w' ⟨rfl, rfl⟩) | go_skip); (refine hK.out _ _ (.inr (kall hp)) ?_); clear hK K; try simp only [put_some, put_none, eval_tmp, eval_const, sSet, zSet, List.getD_cons_succ, List.getD_cons_zero, wrap_eq, e0])
    go_wp2_with (first | (go_at_call 65; (with_reducible refine (within65 nb 0 cm _ HW3.out _).mono ?_); rintro e w' ⟨rfl, rfl⟩) | (go_at_call 66; (with_reducible refine (row66 l nb _ lc _ HF.out HL.out _ (HLA.out.below hp.below)).mono ?_); rintro e w1 ⟨rfl, hb⟩; replace hp := hp.call hb; clear hb) | (go_at_call 67; (with_reducible refine (clone_ents [] _ 0 _ rfl (by decide) _ (RowIs.nil _ _)).mono ?_); rintro e w1 ⟨ad, cd, RD, rfl, hcd, hrd, hpn⟩; replace hp := hp.join hpn; have HCD := Lib.hid hcd; have HRD := Lib.hid hrd; clear hpn hcd hrd; simp only [List.cons_append, List.nil_append] at hp) | go_skip | ((first | ((with_reducible refine pre_alloc _ rfl ?_); refine lZ hp rfl zero33 ?_; clear hp; intro b w1 hp) | ((with_reducible refine pre_box _ _ rfl ?_); refine lB hp rfl (sTm rfl) rfl ?_; clear hp; intro b w1 hp) | ((with_reducible refine pre_load _ _ rfl ?_); first | refine lO hp rfl (sTm rfl) ceQAa0 aa5 ?_ | refine lA hp rfl (sTm rfl) (by with_reducible first | exact agg24 | exact agg33) aa5 ?_) | ((with_reducible refine pre_store _ _ _ rfl ?_); (first | refine sO hp rfl (sTm rfl) ceQAa0 aa5 ?_ | refine sA hp rfl (sTm rfl) (sTm rfl) (by with_reducible first | exact agg24 | exact agg33) aa5 ?_ | refine sG hp rfl (sTm rfl) (sTm rfl) (by with_reducible first | exact agg24 | exact agg33) aa5 ?_); clear hp; intro w1 hp; simp only [spl, zSet, sSet] at hp) | ((with_reducible refine pre_build _ _ _ rfl ?_); refine lS hp rfl (by intro w; go_simp; rfl) ?_; clear hp; intro b w1 hp; simp only [List.length_cons, List.length_nil, Nat.reduceAdd] at hp)); simp only [put_some, put_none, sSet, zSet]))
    exact bodyPost_ret (results_many (rs := [.cell 10 33, .tmp 11]) Tryz.results14 (.cell rfl (hp.loadAgg agg33 at0 0 _ (by rfl) (by rfl)) (.tmp rfl .nil))) rfl ⟨ad, cd, RD, rfl, HRD.out, hp.tail.tail⟩
  · have HL2 : RowKit.Hid (RowIs w (some ⟨bq, off + k * 11, none⟩) ((l.drop k).flatMap envL)) := Lib.hid (by
      have := ents_row HLA.out k (l.length - k)
      rw [List.take_of_length_le (by rw [List.length_drop]; omega)] at this
      exact this)
    clear hkl hm hm2 hpos
    go_enter Tryz.func14, Tryz.ntmps14
    go_wp2_with (first | go_skip | ((first | ((with_reducible refine pre_alloc _ rfl ?_); refine lZ hp rfl zero33 ?_; clear hp; intro b w1 hp) | ((with_reducible refine pre_box _ _ rfl ?_); refine lB hp rfl (sTm rfl) rfl ?_; clear hp; intro b w1 hp) | ((with_reducible refine pre_load _ _ rfl ?_); first | refine lO hp rfl (sTm rfl) ceQAa0 aa5 ?_ | refine lA hp rfl (sTm rfl) (by with_reducible first | exact agg24 | exact agg33) aa5 ?_) | ((with_reducible refine pre_store _ _ _ rfl ?_); (first | refine sO hp rfl (sTm rfl) ceQAa0 aa5 ?_ | refine sA hp rfl (sTm rfl) (sTm rfl) (by with_reducible first | exact agg24 | exact agg33) aa5 ?_ | refine sG hp rfl (sTm rfl) (sTm rfl) (by with_reducible first | exact agg24 | exact agg33) aa5 ?_); clear hp; intro w1 hp; simp only [spl, zSet, sSet] at hp) | ((with_reducible refine pre_build _ _ _ rfl ?_); refine lS hp rfl (by intro w; go_simp; rfl) ?_; clear hp; intro b w1 hp; simp only [List.length_cons, List.length_nil, Nat.reduceAdd] at hp)); simp only [put_some, put_none, sSet, zSet]))
    refine wp_region_keeps _ (Keeps.all hp.drew) [] [(0, true), (1, false), (2, true), (3, true), (4, true), (5, true), (6, true), (7, true), (8, false), (9, false), (10, true), (11, true), (12, true), (13, true), (14, true), (15, true), (16, false), (17, true), (18, true), (19, false)] (by kernel_rfl) (by kernel_rfl) rfl (by kernel_rfl) (fun _ _ d _ _ h => by cases d <;> exact h) ?_
    replace hp := hp.drew
    repeat' (with_reducible refine plan_is ?_); first | (with_reducible refine plan_nil ?_) | ((with_reducible refine plan_t ?_); refine plan_tk rfl ?_; (first | ((with_reducible refine tk_gd _ _ rfl ?_); refine tS (by first | exact wanted_no rfl rfl rfl rfl | exact wanted_nu rfl rfl rfl rfl) ?_) | ((with_reducible refine tk_mv _ rfl ?_); refine tM rfl ?_) | ((with_reducible refine tk_ld _ _ rfl ?_); first | refine tA rfl (sTm rfl) agg24 aa5 ?_ | refine tO rfl (sTm rfl) cell3 aa5 ?_) | refine tG (fun w _ => (by go_simp; try rfl)) ?_); try simp only [put_some, put_none, eval_tmp, eval_const, sSet, zSet, List.getD_cons_succ, List.getD_cons_zero, wrap_eq, e0]) | (refine plan_do rfl (fun K hK => ?_); go_wp2_with (first | (go_at_call 64; (with_reducible refine (check64L vw nm bs im ea es ec _ HB.out HSS.out _ (HA.out.below hp.below)).mono ?_); rintro e w1 ⟨rfl, hb⟩; replace hp := hp.call hb; clear hb; simp only [if_true, Bool.false_eq_true, if_false]) | (go_at_call 18; (with_reducible refine (last18L vw nm bs im ea es ec _ HB.out HSS.out _ (HA.out.below hp.below)).mono ?_); rintro e w1 ⟨rfl, hb⟩; replace hp := hp.call hb; clear hb; simp only [if_true, Bool.false_eq_true, if_false]) | (go_at_call 65; (with_reducible refine (within65 cm bs (bs + es.length) _ HW1.out _).mono ?_); rintro e w' ⟨rfl, rfl⟩) | (go_at_call 65; (with_reducible refine (within65 nv vw 900000000 _ HW2.out _).mono ?_); rintro e w' ⟨rfl, rfl⟩) | go_skip); (refine hK.out _ _ (.inr (kall hp)) ?_); clear hK K; try simp only [put_some, put_none, eval_tmp, eval_const, sSet, zSet, List.getD_cons_succ, List.getD_cons_zero, wrap_eq, e0])
    go_wp2_with (first | (go_at_call 65; (with_reducible refine (within65 nb 0 cm _ HW3.out _).mono ?_); rintro e w' ⟨rfl, rfl⟩) | (go_at_call 66; (with_reducible refine (row66 l nb _ lc _ HF.out HL.out _ (HLA.out.below hp.below)).mono ?_); rintro e w1 ⟨rfl, hb⟩; replace hp := hp.call hb; clear hb) | (go_at_call 67; (with_reducible refine (clone_ents (l.drop k) _ m _ HDM.out HML.out _ (HL2.out.below hp.below)).mono ?_); rintro e w1 ⟨ad, cd, RD, rfl, hcd, hrd, hpn⟩; replace hp := hp.join hpn; have HCD := Lib.hid hcd; have HRD := Lib.hid hrd; clear hpn hcd hrd; simp only [List.cons_append, List.nil_append] at hp) | go_skip | ((first | ((with_reducible refine pre_alloc _ rfl ?_); refine lZ hp rfl zero33 ?_; clear hp; intro b w1 hp) | ((with_reducible refine pre_box _ _ rfl ?_); refine lB hp rfl (sTm rfl) rfl ?_; clear hp; intro b w1 hp) | ((with_reducible refine pre_load _ _ rfl ?_); first | refine lO hp rfl (sTm rfl) ceQAa0 aa5 ?_ | refine lA hp rfl (sTm rfl) (by with_reducible first | exact agg24 | exact agg33) aa5 ?_) | ((with_reducible refine pre_store _ _ _ rfl ?_); (first | refine sO hp rfl (sTm rfl) ceQAa0 aa5 ?_ | refine sA hp rfl (sTm rfl) (sTm rfl) (by with_reducible first | exact agg24 | exact agg33) aa5 ?_ | refine sG hp rfl (sTm rfl) (sTm rfl) (by with_reducible first | exact agg24 | exact agg33) aa5 ?_); clear hp; intro w1 hp; simp only [spl, zSet, sSet] at hp) | ((with_reducible refine pre_build _ _ _ rfl ?_); refine lS hp rfl (by intro w; go_simp; rfl) ?_; clear hp; intro b w1 hp; simp only [List.length_cons, List.length_nil, Nat.reduceAdd] at hp)); simp only [put_some, put_none, sSet, zSet]))
    exact bodyPost_ret (results_many (rs := [.cell 10 33, .tmp 11]) Tryz.results14 (.cell rfl (hp.loadAgg agg33 at0 0 _ (by rfl) (by rfl)) (.tmp rfl .nil))) rfl ⟨ad, cd, RD, rfl, HRD.out, hp.tail.tail⟩
theorem own_put17 {e : TypeId} {c n k g q : Nat} {cells : List Value} {R : List Blk} (h : OwnRow e c (.slice (some ⟨g, 0, none⟩) n k) n cells R) (hn : 0 < n) (v : Value) : OwnRow e c (.slice (some ⟨g, 0, none⟩) n k) n (cells.set q v) [⟨g, cells.set q v, e, k * c⟩] := by
  obtain ⟨hl, ⟨h0, _⟩ | ⟨g', cap, hv, h1, h2, hr⟩⟩ := h
  · omega
  · injection hv with v1 v2 v3
    injection v1 with v1; injection v1 with v1
    subst v1 v3
    exact ⟨by rw [List.length_set]; exact hl, .inr ⟨g, _, rfl, h1, h2, rfl⟩⟩
set_option maxRecDepth 100000 in
set_option maxHeartbeats 4000000 in
theorem over1763 (a : Option Addr) (n k : Nat) (cells : List Value) (R : List Blk) (h : OwnRow 31 11 (.slice a n k) n cells R) (hn : n ≤ 100000) {B : Nat} {w0 w : World} {K : List Blk} (hp : Hp B w0 w (R ++ K)) :
    Calls Tryz.prog 63 #[.slice a n k] w fun e w' => e = .returned (.tuple #[]) ∧ ∃ D, Hp B w0 w' (D ++ K) := by
  have HR := Lib.hid h
  clear h
  go_enter Tryz.func63, Tryz.ntmps63
  go_wp2_with (first | go_skip | ((first | ((with_reducible refine pre_box _ _ rfl ?_); refine lB hp rfl (sTm rfl) rfl ?_; clear hp; intro b w1 hp) | ((with_reducible refine pre_load _ _ rfl ?_); first | refine lO hp rfl (sTm rfl) (by with_reducible first | exact cell3 | exact cell22) aa5 ?_ | refine lA hp rfl (sTm rfl) agg31 aa5 ?_) | ((with_reducible refine pre_store _ _ _ rfl ?_); (first | refine sO hp rfl (sTm rfl) (by with_reducible first | exact cell3 | exact cell22) aa5 ?_ | refine sA hp rfl (sTm rfl) (sTm rfl) agg31 aa5 ?_ | refine sG hp rfl (sTm rfl) (sTm rfl) agg31 aa5 ?_); clear hp; intro w1 hp; simp only [spl, zSet, sSet] at hp)); simp only [put_some, put_none, sSet, zSet]))
  go_loopg [2] n (fun gk iv wr => ∃ (q : Nat) (cells : List Value) (R : List Blk), gk + q = n ∧ iv = .int .i64 q ∧ RowKit.Hid (OwnRow 31 11 (.slice a n k) n cells R) ∧ Hp B w0 wr (R ++ K))
  case atStart => exact ⟨0, cells, R, by omega, rfl, HR, hp⟩
  case round =>
    clear hp HR
    obtain ⟨q, cells, R, hkq, rfl, HR, hp⟩ := hrel
    by_cases hlq : q < n
    · obtain ⟨go, rfl, _, _, rfl, hcl⟩ := HR.out.own (by omega)
      have HQL : RowKit.Hid (q * 11 < cells.length) := Lib.hid (by omega)
      have HNW := Lib.hid (own_put17 HR.out (q := q * 11) (by omega) (.int .i64 (-77)))
      have f1 : (0 : Int) ≤ (q : Int) := by omega
      have f2 : (q : Int) < (n : Int) := by omega
      clear hcl
      simp only [List.cons_append, List.nil_append] at hp
      go_wp2_with (first | ((with_reducible refine pre_store 3 _ _ rfl ?_); refine sO hp rfl (sTm rfl) cell3 at0 ?_ (hlen := HQL.out); clear hp; intro w1 hp; simp only [sSet, zSet] at hp; simp only [put_some, put_none, sSet, zSet]) | go_skip | ((first | ((with_reducible refine pre_box _ _ rfl ?_); refine lB hp rfl (sTm rfl) rfl ?_; clear hp; intro b w1 hp) | ((with_reducible refine pre_load _ _ rfl ?_); first | refine lO hp rfl (sTm rfl) (by with_reducible first | exact cell3 | exact cell22) aa5 ?_ | refine lA hp rfl (sTm rfl) agg31 aa5 ?_) | ((with_reducible refine pre_store _ _ _ rfl ?_); (first | refine sO hp rfl (sTm rfl) (by with_reducible first | exact cell3 | exact cell22) aa5 ?_ | refine sA hp rfl (sTm rfl) (sTm rfl) agg31 aa5 ?_ | refine sG hp rfl (sTm rfl) (sTm rfl) agg31 aa5 ?_); clear hp; intro w1 hp; simp only [spl, zSet, sSet] at hp)); simp only [put_some, put_none, sSet, zSet]))
      go_roundg (gk - 1)
      case measure => omega
      case rel => exact ⟨q + 1, _, _, by omega, by go_num, HNW, hp⟩
    · obtain rfl : q = n := by omega
      have f2 : decide ((q : Int) < (q : Int)) = false := by simp
      clear hkq hlq
      go_wp2_with (first | go_skip | ((first | ((with_reducible refine pre_box _ _ rfl ?_); refine lB hp rfl (sTm rfl) rfl ?_; clear hp; intro b w1 hp) | ((with_reducible refine pre_load _ _ rfl ?_); first | refine lO hp rfl (sTm rfl) (by with_reducible first | exact cell3 | exact cell22) aa5 ?_ | refine lA hp rfl (sTm rfl) agg31 aa5 ?_) | ((with_reducible refine pre_store _ _ _ rfl ?_); (first | refine sO hp rfl (sTm rfl) (by with_reducible first | exact cell3 | exact cell22) aa5 ?_ | refine sA hp rfl (sTm rfl) (sTm rfl) agg31 aa5 ?_ | refine sG hp rfl (sTm rfl) (sTm rfl) agg31 aa5 ?_); clear hp; intro w1 hp; simp only [spl, zSet, sSet] at hp)); simp only [put_some, put_none, sSet, zSet]))
      exact bodyPost_end (results_none Tryz.results63 _ _ _) rfl ⟨rfl, R, hp⟩
end Go.Proofs.YtaafajaadfgaoaaGreat
