/- Parts of the proof. -/
import Derived.Test.YtcjbepaclbhjaaaGreatKe1
import Derived.Test.YtcjbepaclbhjaaaGreatKe26
import Derived.Test.YtcjbepaclbhjaaaGreatKe14
import Derived.Test.YtcjbepaclbhjaaaGreatKe22
import Derived.Test.YtcjbepaclbhjaaaGreatKe12
import Derived.Test.YtcjbepaclbhjaaaGreatKe30
import Derived.Test.YtcjbepaclbhjaaaGreatKe24
import Derived.Test.YtcjbepaclbhjaaaGreatKe3
open List renaming set_cons_zero → zSet, set_cons_succ → sSet
/- The walks of the document: a text that is read; is a state right? -/
set_option linter.unusedSimpArgs false
set_option linter.unusedVariables false
namespace Go.Proofs.YtcjbepaclbhjaaaGreat
open Go.RowKit
def RdtPost (w : World) (r : Option (List Nat × List Nat)) (e : Ending) (w' : World) : Prop := (match r with
  | some (t, _) => e = .returned (.tuple #[.string (strOfNums (nI t)), .int .i64 ((t.length + 4 : Nat) : Int), .int .i64 0])
  | none => ∃ q : Int, (q = 10 ∨ q = 11) ∧ e = .returned (.tuple #[.string ⟨#[]⟩, .int .i64 0, .int .i64 q])) ∧ Below w.heap.size w w'
set_option maxRecDepth 100000 in
set_option maxHeartbeats 4000000 in
theorem rdt91 (bs : List Nat) (a : Option Addr) (c : Nat) (hnc : bs.length ≤ c) (hbl : bs.length ≤ 1000000000) (w : World) (ha : RdAt w a bs) :
    Calls Tryz.prog 91 #[.slice a bs.length c] w (RdtPost w (textR bs)) := by
  have hp := Hp.start w
  have HA := Lib.hid ha
  clear ha
  cases ht : textR bs with
  | none =>
    rcases text_none ht with hn | ⟨n, hn, h1 | ⟨h1, h2⟩⟩
    · have HV := Lib.hid hn
      clear ht hn
      go_enter Tryz.func91, Tryz.ntmps91
      go_wp2_with (first | (go_at_call 111; (with_reducible refine (rdn111 bs _ _ hnc _ (HA.out.below hp.below)).mono ?_); rintro e w1 ⟨hq, hb⟩; replace hp := hp.call hb; clear hb; rw [HV.out] at hq; simp only at hq; first | subst hq | (obtain ⟨q, hq, rfl⟩ := hq)) | go_skip | (first | (refine hA2 ?_; clear hp; intro b w1 hp) | refine hL0 ?_ | (refine hS0 ?_; clear hp; intro w1 hp)))
      have HQ := Lib.hid hq
      have e1 : (q == 0) = false := by rcases hq with rfl | rfl <;> rfl
      clear hq
      go_wp2_with (first | go_skip | (first | (refine hA2 ?_; clear hp; intro b w1 hp) | refine hL0 ?_ | (refine hS0 ?_; clear hp; intro w1 hp)))
      refine bodyPost_ret (results_many (rs := [.tmp 2, .tmp 3, .tmp 4]) Tryz.results91 (.tmp rfl (.tmp rfl (.tmp rfl .nil)))) rfl ?_
      exact ⟨⟨q, HQ.out, rfl⟩, hp.below⟩
    · have HV := Lib.hid hn
      have e1 : decide ((65536 : Int) < (n : Int)) = true := by simp; omega
      clear ht hn
      go_enter Tryz.func91, Tryz.ntmps91
      go_wp2_with (first | (go_at_call 111; (with_reducible refine (rdn111 bs _ _ hnc _ (HA.out.below hp.below)).mono ?_); rintro e w1 ⟨hq, hb⟩; replace hp := hp.call hb; clear hb; rw [HV.out] at hq; simp only at hq; first | subst hq | (obtain ⟨q, hq, rfl⟩ := hq)) | go_skip | (first | (refine hA2 ?_; clear hp; intro b w1 hp) | refine hL0 ?_ | (refine hS0 ?_; clear hp; intro w1 hp)))
      refine bodyPost_ret (results_many (rs := [.tmp 2, .tmp 3, .tmp 4]) Tryz.results91 (.tmp rfl (.tmp rfl (.tmp rfl .nil)))) rfl ?_
      exact ⟨⟨11, .inr rfl, rfl⟩, hp.below⟩
    · have HV := Lib.hid hn
      obtain ⟨h4, _, _⟩ := numR_len hn
      have e1 : decide ((65536 : Int) < (n : Int)) = false := by simp; omega
      have e2 : wrap64 ((bs.length : Int) - 4) = (bs.length : Int) - 4 := by unfold wrap64; omega
      have e3 : decide ((bs.length : Int) - 4 < (n : Int)) = true := by simp; omega
      clear ht hn
      go_enter Tryz.func91, Tryz.ntmps91
      go_wp2_with (first | (go_at_call 111; (with_reducible refine (rdn111 bs _ _ hnc _ (HA.out.below hp.below)).mono ?_); rintro e w1 ⟨hq, hb⟩; replace hp := hp.call hb; clear hb; rw [HV.out] at hq; simp only at hq; first | subst hq | (obtain ⟨q, hq, rfl⟩ := hq)) | go_skip | (first | (refine hA2 ?_; clear hp; intro b w1 hp) | refine hL0 ?_ | (refine hS0 ?_; clear hp; intro w1 hp)))
      refine bodyPost_ret (results_many (rs := [.tmp 2, .tmp 3, .tmp 4]) Tryz.results91 (.tmp rfl (.tmp rfl (.tmp rfl .nil)))) rfl ?_
      exact ⟨⟨10, .inl rfl, rfl⟩, hp.below⟩
  | some p =>
    obtain ⟨t, r⟩ := p
    obtain ⟨n, hn, h1, h2, htt, hr⟩ := text_some ht
    have HV := Lib.hid hn
    obtain ⟨h4, _, _⟩ := numR_len hn
    have e1 : decide ((65536 : Int) < (n : Int)) = false := by simp; omega
    have e2 : wrap64 ((bs.length : Int) - 4) = (bs.length : Int) - 4 := by unfold wrap64; omega
    have e3 : decide ((bs.length : Int) - 4 < (n : Int)) = false := by simp; omega
    have e4 : wrap64 (4 + (n : Int)) = 4 + (n : Int) := by unfold wrap64; omega
    have e5 : (4 : Int) ≤ 4 + (n : Int) := by omega
    have e6 : 4 + (n : Int) ≤ (bs.length : Int) := by omega
    have e7 : 4 + (n : Int) ≤ (c : Int) := by omega
    have e8 : (bs.length : Int) ≤ (c : Int) := by omega
    have htl : t.length = n := by rw [htt, List.length_take, List.length_drop]; omega
    have HTL := Lib.hid htl
    have HNL : RowKit.Hid ((nI t).length = 4 + n - 4) := Lib.hid (by rw [nI_len, htl]; omega)
    obtain ⟨b, off, rfl, _⟩ := HA.out.1.addr (by rw [flat_len byV 1 byV_len]; omega)
    have hdr := HA.out.drop 4
    have hrt := row_take hdr n
    rw [← htt] at hrt
    have HRET : RowKit.Hid (∀ (x : Int) (w' : World), x = 4 + (n : Int) → Below w.heap.size w w' → RdtPost w (some (t, r)) (.returned (.tuple #[.string (strOfNums (nI t)), .int .i64 x, .int .i64 0])) w') := Lib.hid (fun x w' hx hb => ⟨by rw [hx]; show Ending.returned (.tuple #[.string (strOfNums (nI t)), .int .i64 (4 + (n : Int)), .int .i64 0]) = Ending.returned (.tuple #[.string (strOfNums (nI t)), .int .i64 ((t.length + 4 : Nat) : Int), .int .i64 0]); rw [htl, show ((n + 4 : Nat) : Int) = 4 + (n : Int) by omega], hb⟩)
    by_cases h : c = 4
    · subst h
      have hn0 : n = 0 := by omega
      have ht0 : t = [] := List.eq_nil_of_length_eq_zero (by omega)
      have HTR : RowKit.Hid (RowIs w (some ⟨b, off, none⟩) ((nI t).map (Value.int .u8))) := Lib.hid (by rw [ht0]; exact RowIs.nil _ _)
      clear ht hn htt hr htl hdr hrt hn0 ht0
      go_enter Tryz.func91, Tryz.ntmps91
      go_wp2_with (first | (go_at_call 111; (with_reducible refine (rdn111 bs _ _ hnc _ (HA.out.below hp.below)).mono ?_); rintro e w1 ⟨hq, hb⟩; replace hp := hp.call hb; clear hb; rw [HV.out] at hq; simp only at hq; first | subst hq | (obtain ⟨q, hq, rfl⟩ := hq)) | ((with_reducible refine pre_convert _ _ _ rfl ?_); refine wpList_conv_row 89 9 5 _ rfl wy Tryz.underlying89 Tryz.underlying5 Tryz.underlying9 _ _ _ (sTm rfl) (nI t) HNL.out ((HTR.out).below hp.below) ?_; simp only [put_some, put_none, sSet, zSet]) | go_skip | (first | (refine hA2 ?_; clear hp; intro b w1 hp) | refine hL0 ?_ | (refine hS0 ?_; clear hp; intro w1 hp)))
      refine bodyPost_ret (results_many (rs := [.tmp 2, .tmp 3, .tmp 4]) Tryz.results91 (.tmp rfl (.tmp rfl (.tmp rfl .nil)))) rfl ?_
      exact HRET.out _ _ (by first | rfl | omega) hp.below
    · have HTR : RowKit.Hid (RowIs w (some ⟨b, off + 4, none⟩) ((nI t).map (Value.int .u8))) := Lib.hid hrt
      clear ht hn htt hr htl hdr hrt
      go_enter Tryz.func91, Tryz.ntmps91
      go_wp2_with (first | (go_at_call 111; (with_reducible refine (rdn111 bs _ _ hnc _ (HA.out.below hp.below)).mono ?_); rintro e w1 ⟨hq, hb⟩; replace hp := hp.call hb; clear hb; rw [HV.out] at hq; simp only at hq; first | subst hq | (obtain ⟨q, hq, rfl⟩ := hq)) | ((with_reducible refine pre_convert _ _ _ rfl ?_); refine wpList_conv_row 89 9 5 _ rfl wy Tryz.underlying89 Tryz.underlying5 Tryz.underlying9 _ _ _ (sTm rfl) (nI t) HNL.out ((HTR.out).below hp.below) ?_; simp only [put_some, put_none, sSet, zSet]) | go_skip | (first | (refine hA2 ?_; clear hp; intro b w1 hp) | refine hL0 ?_ | (refine hS0 ?_; clear hp; intro w1 hp)))
      refine bodyPost_ret (results_many (rs := [.tmp 2, .tmp 3, .tmp 4]) Tryz.results91 (.tmp rfl (.tmp rfl (.tmp rfl .nil)))) rfl ?_
      exact HRET.out _ _ (by first | rfl | omega) hp.below
theorem within150 (n lo hi : Int) (b : Bool) (hb : inM n lo hi = b) (w : World) : Calls Tryz.prog 150 #[.int .i64 n, .int .i64 lo, .int .i64 hi] w fun e w' => e = .returned (.bool b) ∧ w = w' := by
  subst hb
  go_enter Tryz.func150, Tryz.ntmps150
  go_wp2
  all_goals go_ret
  all_goals refine ⟨ret_bool ?_, rfl⟩
  all_goals (simp [inM, *]; try omega)
def mayW (x : Rw) : Bool := inM x.c 1 4 && (inM x.s 1 1000000 && inM x.e 0 65535)
set_option maxRecDepth 100000 in
theorem mayrow117 (xc xs xe xv : Int) (b : Bool) (hb : mayW ⟨xc, xs, xe, xv⟩ = b) (w : World) : Calls Tryz.prog 117 #[.agg #[.int .i64 xc, .int .i64 xs, .int .i64 xe, .int .i64 xv]] w fun e w' => e = .returned (.bool b) ∧ Below w.heap.size w w' := by
  subst hb
  have hp := Hp.start w
  unfold mayW
  simp only
  cases h1 : inM xc 1 4
  all_goals cases h2 : inM xs 1 1000000
  all_goals cases h3 : inM xe 0 65535
  all_goals
    have H1 := Lib.hid h1
    have H2 := Lib.hid h2
    have H3 := Lib.hid h3
    clear h1 h2 h3
    go_enter Tryz.func117, Tryz.ntmps117
    go_wp2_with (first | (go_at_call 150; (first | (with_reducible refine (within150 xc 1 4 _ H1.out _).mono ?_) | (with_reducible refine (within150 xs 1 1000000 _ H2.out _).mono ?_) | (with_reducible refine (within150 xe 0 65535 _ H3.out _).mono ?_)); rintro e w' ⟨rfl, rfl⟩) | go_skip | (first | (refine hA2 ?_; clear hp; intro b w1 hp) | refine hL0 ?_ | (refine hS0 ?_; clear hp; intro w1 hp)))
    go_ret
    exact ⟨rfl, hp.below⟩
theorem rowOk_may {last : Int} {x : Rw} (h : mayW x = false) : rowOk last x = false ∨ last < 0 := by
  by_cases hl : last < 0
  · exact .inr hl
  · left
    unfold rowOk
    rw [decide_eq_false_iff_not]
    rintro ⟨h1, h2, h3, h4, h5, h6⟩
    unfold mayW inM at h
    have : (decide (1 ≤ x.c) && decide (x.c ≤ 4) && (decide (1 ≤ x.s) && decide (x.s ≤ 1000000) && (decide (0 ≤ x.e) && decide (x.e ≤ 65535)))) = true := by simp; omega
    rw [this] at h; cases h
theorem may_facts6 {x : Rw} (h : mayW x = true) : 1 ≤ x.c ∧ x.c ≤ 4 ∧ 1 ≤ x.s ∧ x.s ≤ 1000000 ∧ 0 ≤ x.e ∧ x.e ≤ 65535 := by
  unfold mayW inM at h
  simp at h
  omega
theorem right05_R (od : Int) (oa : Option Addr) (os : List Ob) (oc : Nat) (nx t0 t1 t2 t3 : Int) (fa : Option Addr) (fs : List Bl) (fc : Nat) (b : Bool) (hb : hrightB ⟨od, oa, os, oc, nx, t0, t1, t2, t3, fa, fs, fc⟩ = b) (hs : Hv.Small ⟨od, oa, os, oc, nx, t0, t1, t2, t3, fa, fs, fc⟩) (hnx : nx ≤ 9223372036854775807) (w : World) (h : Hv.Is w ⟨od, oa, os, oc, nx, t0, t1, t2, t3, fa, fs, fc⟩) :
    Calls Tryz.prog 115 #[.agg #[.int .i64 od, .slice oa os.length oc, .int .i64 nx, .int .i64 t0, .int .i64 t1, .int .i64 t2, .int .i64 t3, .slice fa fs.length fc]] w fun e w' => e = .returned (.bool b) ∧ Below w.heap.size w w' := hb ▸ right115 ⟨od, oa, os, oc, nx, t0, t1, t2, t3, fa, fs, fc⟩ hs hnx w h
def LastIs (rs : List Rw) (q : Nat) (last : Int) : Prop := (q = 0 → last = 0) ∧ (0 < q → 1 ≤ last ∧ ∃ y, rs[q - 1]? = some y ∧ y.c = last)
theorem row_ways6 {rs : List Rw} (hrl : rs.length ≤ 1000) {q : Nat} {last : Int} {x : Rw} (h : LastIs rs q last) (hx : rs[q]? = some x) {res : Bool} (hr : rowsOk 0 rs = rowsOk last (rs.drop q)) (hres : res = rowsOk 0 rs) :
    (mayW x = false ∧ res = false) ∨ (mayW x = true ∧ decide ((0 : Int) < (q : Int)) = false ∧ decide (0 < q) = false ∧ rowsOk 0 rs = rowsOk x.c (rs.drop (q + 1)) ∧ LastIs rs (q + 1) x.c) ∨
    (∃ (k : Nat) (y : Rw), mayW x = true ∧ decide ((0 : Int) < (q : Int)) = true ∧ decide (0 < q) = true ∧ wrap64 ((q : Int) - 1) = (k : Int) ∧ (q : Int) - 1 = (k : Int) ∧ (0 : Int) ≤ (k : Int) ∧ (k : Int) < (rs.length : Int) ∧ rs[k]? = some y ∧ decide (x.c ≤ y.c) = true ∧ res = false) ∨
    (∃ (k : Nat) (y : Rw), mayW x = true ∧ decide ((0 : Int) < (q : Int)) = true ∧ decide (0 < q) = true ∧ wrap64 ((q : Int) - 1) = (k : Int) ∧ (q : Int) - 1 = (k : Int) ∧ (0 : Int) ≤ (k : Int) ∧ (k : Int) < (rs.length : Int) ∧ rs[k]? = some y ∧ decide (x.c ≤ y.c) = false ∧ rowsOk 0 rs = rowsOk x.c (rs.drop (q + 1)) ∧ LastIs rs (q + 1) x.c) := by
  have hql := (List.getElem?_eq_some_iff.1 hx).1
  have hd : rs.drop q = x :: rs.drop (q + 1) := by
    rw [List.drop_eq_getElem_cons hql]
    congr 1
    rw [List.getElem?_eq_getElem hql] at hx; injection hx
  have hc : rowsOk 0 rs = (rowOk last x && rowsOk x.c (rs.drop (q + 1))) := by rw [hr, hd]; rfl
  have hla : 0 ≤ last := by
    rcases Nat.eq_zero_or_pos q with h0 | h0
    · rw [h.1 h0]; exact Int.le_refl _
    · have := (h.2 h0).1; omega
  cases hm : mayW x with
  | false =>
    left
    refine ⟨rfl, ?_⟩
    rcases rowOk_may (last := last) hm with h1 | h1
    · rw [hres, hc, h1]; rfl
    · omega
  | true =>
    right
    have hf := may_facts6 hm
    have hnext : LastIs rs (q + 1) x.c := ⟨fun h => by omega, fun _ => ⟨hf.1, x, by simpa using hx, rfl⟩⟩
    rcases Nat.eq_zero_or_pos q with h0 | h0
    · left
      have hl := h.1 h0
      refine ⟨rfl, by simp; omega, by simp; omega, ?_, hnext⟩
      rw [hc, show rowOk last x = true from rowOk_iff.2 (by omega)]; rfl
    · right
      obtain ⟨h1, y, hy, hyc⟩ := h.2 h0
      have w1 : wrap64 ((q : Int) - 1) = ((q - 1 : Nat) : Int) := by unfold wrap64; omega
      by_cases hle : x.c ≤ y.c
      · left
        refine ⟨q - 1, y, rfl, by simp; omega, by simp; omega, w1, by omega, by omega, by omega, hy, decide_eq_true hle, ?_⟩
        rw [hres, hc, show rowOk last x = false by unfold rowOk; rw [decide_eq_false_iff_not]; rintro ⟨g, _⟩; omega]; rfl
      · right
        refine ⟨q - 1, y, rfl, by simp; omega, by simp; omega, w1, by omega, by omega, by omega, hy, decide_eq_false hle, ?_, hnext⟩
        rw [hc, show rowOk last x = true from rowOk_iff.2 (by omega)]; rfl
set_option maxRecDepth 100000 in
set_option maxHeartbeats 8000000 in
theorem right95L (od : Int) (oa : Option Addr) (os : List Ob) (oc : Nat) (nx t0 t1 t2 t3 : Int) (fa : Option Addr) (fs : List Bl) (fc : Nat) (ra : Option Addr) (rs : List Rw) (rc : Nat) (res : Bool) (hres : stB ⟨⟨od, oa, os, oc, nx, t0, t1, t2, t3, fa, fs, fc⟩, ra, rs, rc⟩ = res) (hs : Sv.Small ⟨⟨od, oa, os, oc, nx, t0, t1, t2, t3, fa, fs, fc⟩, ra, rs, rc⟩) (hnx : nx ≤ 9223372036854775807) (w : World) (hx0 : Sv.Is w ⟨⟨od, oa, os, oc, nx, t0, t1, t2, t3, fa, fs, fc⟩, ra, rs, rc⟩) :
    Calls Tryz.prog 95 #[.agg #[.int .i64 od, .slice oa os.length oc, .int .i64 nx, .int .i64 t0, .int .i64 t1, .int .i64 t2, .int .i64 t3, .slice fa fs.length fc, .slice ra rs.length rc]] w fun e w' => e = .returned (.bool res) ∧ Below w.heap.size w w' := by
  subst hres
  have hp := Hp.start w
  have HSH : RowKit.Hid (Hv.Small ⟨od, oa, os, oc, nx, t0, t1, t2, t3, fa, fs, fc⟩) := Lib.hid hs.1
  have HIH : RowKit.Hid (Hv.Is w ⟨od, oa, os, oc, nx, t0, t1, t2, t3, fa, fs, fc⟩) := Lib.hid hx0.1
  have HR : RowKit.Hid (RowIs w ra (rs.flatMap rwV)) := Lib.hid hx0.2
  have hrl : rs.length ≤ 1000 := hs.2
  have HNX := Lib.hid hnx
  clear hs hx0 hnx
  go_enter Tryz.func95, Tryz.ntmps95
  go_wp2_with (first | go_skip | (first | (refine hA2 ?_; clear hp; intro b w1 hp) | refine hL0 ?_ | (refine hS0 ?_; clear hp; intro w1 hp)))
  obtain ⟨bb, rfl⟩ := hp.id0
  go_loopg [3] rs.length (fun k i wr => ∃ (q : Nat) (last : Int), k + q = rs.length ∧ i = .int .i64 q ∧ RowKit.Hid (rowsOk 0 rs = rowsOk last (rs.drop q)) ∧ RowKit.Hid (LastIs rs q last) ∧ Hp w.heap.size w wr [⟨bb, [.int .i64 od, .slice oa os.length oc, .int .i64 nx, .int .i64 t0, .int .i64 t1, .int .i64 t2, .int .i64 t3, .slice fa fs.length fc, .slice ra rs.length rc], 86, 9⟩])
  case atStart => exact ⟨0, 0, by omega, rfl, Lib.hid rfl, Lib.hid ⟨fun _ => rfl, fun h => absurd h (Nat.lt_irrefl 0)⟩, hp⟩
  case round =>
    clear hp
    obtain ⟨q, last, hkq, rfl, HF, HLA, hp⟩ := hrel
    by_cases hlt : q < rs.length
    · obtain ⟨bq, off, rfl, hx⟩ := HR.out.elems 4 rwV_len (by omega) (by omega)
      have HE := Lib.hid hx
      have hj := List.getElem?_eq_getElem hlt
      replace hx := hx q _ hj
      have hways := row_ways6 hrl HLA.out hj HF.out rfl
      clear hj
      generalize rs[q] = x at hx hways
      obtain ⟨xc, xs, xe, xv⟩ := x
      simp only [rwV] at hx
      have HX := Lib.hid hx
      have f1 : (0 : Int) ≤ (q : Int) := by omega
      have f2 : (q : Int) < (rs.length : Int) := by omega
      clear hx
      rcases hways with ⟨hm, hr⟩ | ⟨hm, d1, d2, hn, hl⟩ | ⟨k, y, hm, d1, d2, d3, d4, d5, d6, hy, hle, hr⟩ | ⟨k, y, hm, d1, d2, d3, d4, d5, d6, hy, hle, hn, hl⟩
      · have HMB := Lib.hid hm
        have HRR : RowKit.Hid (rowsOk 0 rs = false) := Lib.hid hr
        clear hm hr HE
        go_wp2_with (first | go_skip | (first | (refine hA2 ?_; clear hp; intro b w1 hp) | refine hL0 ?_ | (refine hS0 ?_; clear hp; intro w1 hp)))
        refine wp_region_keeps _ (Keeps.all hp.drew) [] [(0, true), (1, true), (2, true), (3, true), (4, true), (5, false), (6, true), (7, true), (8, true), (9, true), (10, true), (11, true), (12, true), (13, true), (14, true), (15, true), (16, true), (17, true), (18, true), (19, true), (20, true), (21, true), (22, true), (23, true), (24, true), (25, true), (26, true)] (by kernel_rfl) (by kernel_rfl) rfl (by kernel_rfl) (fun _ _ d _ _ h => by cases d <;> exact h) ?_
        replace hp := hp.drew
        repeat' (with_reducible refine plan_is ?_); first | (with_reducible refine plan_nil ?_) | refine tk16 ?_ | (refine plan_do rfl (fun K hK => ?_); go_wp2_with (first | (go_at_call 117; (with_reducible refine (mayrow117 xc xs xe xv _ HMB.out _).mono ?_); rintro e w1 ⟨rfl, hb⟩; replace hp := hp.call hb; clear hb) | go_skip); (refine hK.out _ _ (.inr (kall hp)) ?_); clear hK K; try simp only [put_some, put_none, eval_tmp, eval_const, sSet, zSet, List.getD_cons_succ, List.getD_cons_zero, wrap_eq])
        go_wp2_with (first | go_skip | (first | (refine hA2 ?_; clear hp; intro b w1 hp) | refine hL0 ?_ | (refine hS0 ?_; clear hp; intro w1 hp)))
        go_ret
        refine ⟨ret_bool ?_, hp.below⟩
        unfold stB
        simp only
        rw [HRR.out, Bool.and_false]
      · have HMB := Lib.hid hm
        have HNN := Lib.hid hn
        have HLL := Lib.hid hl
        have d3 : ¬ 0 < q := by simpa using d2
        clear hm hn hl HE
        go_wp2_with (first | go_skip | (first | (refine hA2 ?_; clear hp; intro b w1 hp) | refine hL0 ?_ | (refine hS0 ?_; clear hp; intro w1 hp)))
        refine wp_region_keeps [_] (Keeps.one hp.drew at0) [] [(0, true), (1, true), (2, true), (3, true), (4, true), (5, false), (6, true), (7, true), (8, true), (9, true), (10, true), (11, true), (12, true), (13, true), (14, true), (15, true), (16, true), (17, true), (18, true), (19, true), (20, true), (21, true), (22, true), (23, true), (24, true), (25, true), (26, true)] (by kernel_rfl) (by kernel_rfl) rfl (by kernel_rfl) (fun _ _ d _ _ h => by cases d <;> exact h) ?_
        replace hp := hp.drew
        repeat' (with_reducible refine plan_is ?_); first | (with_reducible refine plan_nil ?_) | refine tk17 ?_ | (refine plan_do rfl (fun K hK => ?_); go_wp2_with (first | (go_at_call 117; (with_reducible refine (mayrow117 xc xs xe xv _ HMB.out _).mono ?_); rintro e w1 ⟨rfl, hb⟩; replace hp := hp.call hb; clear hb) | go_skip); (refine hK.out _ _ (.inr (Keeps.one hp aa5)) ?_); clear hK K; try simp only [put_some, put_none, eval_tmp, eval_const, sSet, zSet, List.getD_cons_succ, List.getD_cons_zero, wrap_eq])
        go_wp2_with (first | go_skip | (first | (refine hA2 ?_; clear hp; intro b w1 hp) | refine hL0 ?_ | (refine hS0 ?_; clear hp; intro w1 hp)))
        go_roundg (gk - 1)
        case measure => omega
        case rel => exact ⟨q + 1, xc, by omega, by go_num, HNN, HLL, hp⟩
      · have HMB := Lib.hid hm
        have HRR : RowKit.Hid (rowsOk 0 rs = false) := Lib.hid hr
        have HY := HE.out _ _ hy
        obtain ⟨yc, ys, ye, yv⟩ := y
        simp only [rwV] at HY
        have HK := Lib.hid HY
        have HW := Lib.hid d3
        have d7 : 0 < q := by simpa using d2
        simp only at hle
        clear hm hr HE HY hy d3 d4
        go_wp2_with (first | go_skip | (first | (refine hA2 ?_; clear hp; intro b w1 hp) | refine hL0 ?_ | (refine hS0 ?_; clear hp; intro w1 hp)))
        refine wp_region_keeps [_] (Keeps.one hp.drew at0) [] [(0, true), (1, true), (2, true), (3, true), (4, true), (5, false), (6, true), (7, true), (8, true), (9, true), (10, true), (11, true), (12, true), (13, true), (14, true), (15, true), (16, true), (17, true), (18, true), (19, true), (20, true), (21, true), (22, true), (23, true), (24, true), (25, true), (26, true)] (by kernel_rfl) (by kernel_rfl) rfl (by kernel_rfl) (fun _ _ d _ _ h => by cases d <;> exact h) ?_
        replace hp := hp.drew
        repeat' (with_reducible refine plan_is ?_); first | (with_reducible refine plan_nil ?_) | refine tk18 ?_ | (refine plan_do rfl (fun K hK => ?_); go_wp2_with (first | (go_at_call 117; (with_reducible refine (mayrow117 xc xs xe xv _ HMB.out _).mono ?_); rintro e w1 ⟨rfl, hb⟩; replace hp := hp.call hb; clear hb) | go_skip); (refine hK.out _ _ (.inr (Keeps.one hp aa5)) ?_); clear hK K; try simp only [put_some, put_none, eval_tmp, eval_const, sSet, zSet, List.getD_cons_succ, List.getD_cons_zero, wrap_eq, HW.out])
        go_wp2_with (first | go_skip | (first | (refine hA2 ?_; clear hp; intro b w1 hp) | refine hL0 ?_ | (refine hS0 ?_; clear hp; intro w1 hp)))
        go_ret
        refine ⟨ret_bool ?_, hp.below⟩
        unfold stB
        simp only
        rw [HRR.out, Bool.and_false]
      · have HMB := Lib.hid hm
        have HNN := Lib.hid hn
        have HLL := Lib.hid hl
        have HY := HE.out _ _ hy
        obtain ⟨yc, ys, ye, yv⟩ := y
        simp only [rwV] at HY
        have HK := Lib.hid HY
        have HW := Lib.hid d3
        have d7 : 0 < q := by simpa using d2
        simp only at hle
        clear hm hn hl HE HY hy d3 d4
        go_wp2_with (first | go_skip | (first | (refine hA2 ?_; clear hp; intro b w1 hp) | refine hL0 ?_ | (refine hS0 ?_; clear hp; intro w1 hp)))
        refine wp_region_keeps [_] (Keeps.one hp.drew at0) [] [(0, true), (1, true), (2, true), (3, true), (4, true), (5, false), (6, true), (7, true), (8, true), (9, true), (10, true), (11, true), (12, true), (13, true), (14, true), (15, true), (16, true), (17, true), (18, true), (19, true), (20, true), (21, true), (22, true), (23, true), (24, true), (25, true), (26, true)] (by kernel_rfl) (by kernel_rfl) rfl (by kernel_rfl) (fun _ _ d _ _ h => by cases d <;> exact h) ?_
        replace hp := hp.drew
        repeat' (with_reducible refine plan_is ?_); first | (with_reducible refine plan_nil ?_) | refine tk18 ?_ | (refine plan_do rfl (fun K hK => ?_); go_wp2_with (first | (go_at_call 117; (with_reducible refine (mayrow117 xc xs xe xv _ HMB.out _).mono ?_); rintro e w1 ⟨rfl, hb⟩; replace hp := hp.call hb; clear hb) | go_skip); (refine hK.out _ _ (.inr (Keeps.one hp aa5)) ?_); clear hK K; try simp only [put_some, put_none, eval_tmp, eval_const, sSet, zSet, List.getD_cons_succ, List.getD_cons_zero, wrap_eq, HW.out])
        go_wp2_with (first | go_skip | (first | (refine hA2 ?_; clear hp; intro b w1 hp) | refine hL0 ?_ | (refine hS0 ?_; clear hp; intro w1 hp)))
        go_roundg (gk - 1)
        case measure => omega
        case rel => exact ⟨q + 1, xc, by omega, by go_num, HNN, HLL, hp⟩
    · obtain rfl : q = rs.length := by omega
      have f2 : decide ((rs.length : Int) < (rs.length : Int)) = false := by simp
      have HT : RowKit.Hid (rowsOk 0 rs = true) := Lib.hid (by rw [HF.out, List.drop_length]; rfl)
      obtain ⟨b, hb⟩ : ∃ b, hrightB ⟨od, oa, os, oc, nx, t0, t1, t2, t3, fa, fs, fc⟩ = b := ⟨_, rfl⟩
      have HB := Lib.hid hb
      clear hkq hlt hb HF
      go_wp2_with (first | (go_at_call 115; (with_reducible refine (right05_R od oa os oc nx t0 t1 t2 t3 fa fs fc _ HB.out HSH.out HNX.out _ (HIH.out.below hp.below)).mono ?_); rintro e w1 ⟨rfl, hb⟩; replace hp := hp.call hb; clear hb) | go_skip | (first | (refine hA2 ?_; clear hp; intro b w1 hp) | refine hL0 ?_ | (refine hS0 ?_; clear hp; intro w1 hp)))
      go_ret
      refine ⟨ret_bool ?_, hp.below⟩
      unfold stB
      simp only
      rw [HT.out, Bool.and_true, HB.out]
end Go.Proofs.YtcjbepaclbhjaaaGreat
/- Heaps that are laid and read, by their parts; the chapter's examples of heaps. -/
namespace Go.Proofs.YtcjbepaclbhjaaaGreat
open Go.RowKit
theorem obsB_sm {l k : List Ob} (h : ObsSm l k) : l.flatMap obB = k.flatMap obB := by
  have : l.map obB = k.map obB := by
    apply List.ext_getElem?
    intro i
    rw [List.getElem?_map, List.getElem?_map]
    rcases Nat.lt_or_ge i l.length with hi | hi
    · have ha := List.getElem?_eq_getElem hi
      have hb := List.getElem?_eq_getElem (l := k) (i := i) (by have := h.1; omega)
      obtain ⟨h1, h2, h3, h4, h5⟩ := h.2 i _ _ ha hb
      rw [ha, hb]
      simp only [Option.map_some, obB, h1, h2, h4, h5]
    · rw [List.getElem?_eq_none hi, List.getElem?_eq_none (by have := h.1; omega)]
  rw [List.flatMap_def, List.flatMap_def, this]
theorem heapB_sm {x y : Hv} (h : x.Sm y) : heapB x = heapB y := by
  unfold heapB headB
  rw [h.od, h.nx, h.t0, h.t1, h.t2, h.t3, obsB_sm h.os, h.os.1]
theorem stateB_sm {x y : Sv} (h : x.Sm y) : stateB x = stateB y := by
  unfold stateB; rw [heapB_sm h.1, h.2]
theorem HvO.kept {y : Hv} {R : List Blk} (h : HvO y R) : Kept R fun w => y.Is w := by
  obtain ⟨RO, RF, M, rfl, h⟩ := h
  exact h.kept
theorem SubRow.cap {e : TypeId} {c n m : Nat} {a : Option Addr} {k : Nat} {xs : List Value} {R : List Blk} (h : SubRow e c (.slice a n k) m xs R) (hn : n = m) : m ≤ k := by
  obtain ⟨a', k', hv, hk, _⟩ := h.kept
  injection hv with _ _ hk'
  omega
def b28 : List Nat := [0, 0, 0, 3, 0, 0, 0, 1, 0, 0, 0, 0, 0, 0, 0, 0, 0, 0, 0, 0, 0, 0, 0, 0, 0, 0, 0, 0]
theorem right_one3 : hrightB (oneHv 3) = true := hright_one (by decide) (by decide)
end Go.Proofs.YtcjbepaclbhjaaaGreat
