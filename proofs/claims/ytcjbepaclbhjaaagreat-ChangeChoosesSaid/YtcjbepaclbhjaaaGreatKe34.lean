/- Parts of the proof. -/
import Derived.Test.YtcjbepaclbhjaaaGreatKe1
import Derived.Test.YtcjbepaclbhjaaaGreatKe24
import Derived.Test.YtcjbepaclbhjaaaGreatKe22
import Derived.WalkMore
import Derived.ScopeJumps
open List renaming set_cons_zero → zSet, set_cons_succ → sSet
/- The walk of Check of what is kept. -/
set_option linter.unusedSimpArgs false
set_option linter.unusedVariables false
namespace Go.Proofs.YtcjbepaclbhjaaaGreat
open Go.RowKit
theorem wp_scope_fwd {P : Program} {a : Act} {w : World} {Q : Exit → Act → World → Prop} {c rest : Code} (l : Nat) (hf : findLabel c l = some rest)
    (h : c.wp P (Exit.jump l (fun a w => rest.wp P (Exit.noGoto Q) a w) Q) a w) : (Code.scope c).wp P Q a w :=
  wp_scope_jumps l (fun a w => rest.wp P (Exit.noGoto Q) a w) (fun _ _ => 0) hf h fun a w hJ => Code.wp_mono (fun e a' w' hq => by cases e <;> first | exact hq.elim | exact hq) hJ
theorem jump_ret {Q : Exit → Act → World → Prop} {J : Act → World → Prop} {l : Nat} {a : Act} {w : World} (h : Q .ret a w) : Exit.jump l J Q .ret a w := h
def entsB (nm : Int) : Int → List Env → Bool
  | _, [] => true
  | v, e :: r => mayE e && (inM e.vi v nm && entsB nm e.vi r)
noncomputable def okC (x : Kv) : Bool := inM x.vw 0 900000000 && (inM x.nm 0 x.vw && (inM x.bs 0 900000000 && (decide (x.es.length ≤ 4000) && (folB x.bs 0 x.es && (entsB x.nm 0 x.es && (stateR (strB x.im)).isSome)))))
def Kv.Small (x : Kv) : Prop := x.es.length ≤ 100000 ∧ x.im.size ≤ 1000000
def GotS (w : World) (x : Sv) (e : Ending) (w' : World) : Prop := ∃ od oa os oc nx t0 t1 t2 t3 fa fs fc ra rs rc R, e = .returned (.tuple #[.agg #[.int .i64 od, .slice oa (List.length os) oc, .int .i64 nx, .int .i64 t0, .int .i64 t1, .int .i64 t2, .int .i64 t3, .slice fa (List.length fs) fc, .slice ra (List.length rs) rc], .int .i64 0]) ∧ Sv.Sm ⟨⟨od, oa, os, oc, nx, t0, t1, t2, t3, fa, fs, fc⟩, ra, rs, rc⟩ x ∧ SvO ⟨⟨od, oa, os, oc, nx, t0, t1, t2, t3, fa, fs, fc⟩, ra, rs, rc⟩ R ∧ Hp w.heap.size w w' R
theorem gets_yes (s : ByteArray) (x : Sv) (hr : stateR (strB s) = some x) (ad : Option Addr) (c : Nat) (hc : s.size ≤ c) (hs : s.size ≤ 1000000000) (w : World) (ha : RdAt w ad (strB s)) : Calls Tryz.prog 59 #[.slice ad s.size c] w (GotS w x) := by
  have h := gets59 (strB s) ad c (by rw [strB_len]; exact hc) (by rw [strB_len]; exact hs) w ha
  rw [strB_len] at h
  refine h.mono fun e w' h => ?_
  rw [hr] at h
  obtain ⟨y, R, h1, h2, h3, h4⟩ := h
  obtain ⟨⟨od, oa, os, oc, nx, t0, t1, t2, t3, fa, fs, fc⟩, ra, rs, rc⟩ := y
  exact ⟨od, oa, os, oc, nx, t0, t1, t2, t3, fa, fs, fc, ra, rs, rc, R, h1, h2, h3, h4⟩
theorem gets_no (s : ByteArray) (hr : stateR (strB s) = none) (ad : Option Addr) (c : Nat) (hc : s.size ≤ c) (hs : s.size ≤ 1000000000) (w : World) (ha : RdAt w ad (strB s)) : Calls Tryz.prog 59 #[.slice ad s.size c] w fun e w' => e = .returned (.tuple #[.agg #[.int .i64 0, .slice none 0 0, .int .i64 0, .int .i64 0, .int .i64 0, .int .i64 0, .int .i64 0, .slice none 0 0, .slice none 0 0], .int .i64 60]) ∧ Below w.heap.size w w' := by
  have h := gets59 (strB s) ad c (by rw [strB_len]; exact hc) (by rw [strB_len]; exact hs) w ha
  rw [strB_len] at h
  refine h.mono fun e w' h => ?_
  rw [hr] at h
  exact h
theorem within_lit (n lo hi : Int) (b : Bool) (hb : inM n lo hi = b) (w : World) : Calls Tryz.prog 57 #[.int .i64 n, .int .i64 lo, .int .i64 hi] w fun e w' => e = .returned (.bool b) ∧ w = w' := hb ▸ within57 n lo hi w
theorem follows_lit (l : List Env) (fr : Int) (a : Option Addr) (c : Nat) (b : Bool) (hb : folB fr 0 l = b) (hl : l.length ≤ 100000) (w : World) (ha : RowIs w a (l.flatMap envL)) :
    Calls Tryz.prog 58 #[.slice a l.length c, .int .i64 fr] w fun e w' => e = .returned (.bool b) ∧ Below w.heap.size w w' := hb ▸ follows58 l fr a c hl w ha
theorem check_h1 (vw nm bs : Int) (im : ByteArray) (ea : Option Addr) (es : List Env) (ec : Nat) (hs : Kv.Small ⟨vw, nm, bs, im, ea, es, ec⟩) (w : World) (ha : RowIs w ea (es.flatMap envL)) (h1 : inM vw 0 900000000 = false) : Calls Tryz.prog 27 #[.agg #[.int .i64 vw, .int .i64 nm, .int .i64 bs, .string im, .slice ea es.length ec]] w fun e w' => e = .returned (.int .i64 1) ∧ Below w.heap.size w w' := by
  have hp := Hp.start w; have HA := Lib.hid ha; have hsl : es.length ≤ 100000 := hs.1; have HL := Lib.hid hsl; have hsi : im.size ≤ 1000000 := hs.2; have HIM : RowKit.Hid (im.size ≤ 1000000000) := Lib.hid (by omega); clear ha hs hsi
  have H1 := Lib.hid h1
  clear h1 hsl
  go_enter Tryz.func27, Tryz.ntmps27
  go_wp2_with (first | go_skip | (first | (refine hA1 ?_; clear hp; intro b w1 hp) | refine hL11 ?_ | (refine hS0 ?_; clear hp; intro w1 hp))); refine wp_scope_fwd 0 rfl ?_; go_wp2_with (first | (go_at_call 57; (with_reducible refine (within_lit vw 0 900000000 _ H1.out _).mono ?_); rintro e w' ⟨rfl, rfl⟩) | (go_at_call 57; (with_reducible refine (within_lit nm 0 vw _ H2.out _).mono ?_); rintro e w' ⟨rfl, rfl⟩) | (go_at_call 57; (with_reducible refine (within_lit bs 0 900000000 _ H3.out _).mono ?_); rintro e w' ⟨rfl, rfl⟩) | (go_at_call 58; (with_reducible refine (follows_lit es bs ea ec _ H5.out HL.out _ (HA.out.below hp.below)).mono ?_); rintro e w1 ⟨rfl, hb⟩; replace hp := hp.call hb; clear hb) | go_skip | (first | (refine hA1 ?_; clear hp; intro b w1 hp) | refine hL11 ?_ | (refine hS0 ?_; clear hp; intro w1 hp)))
  (go_step3; refine And.intro rfl ?_; go_wp2; rw [Exit.noGoto_ret])
  (go_ret; exact ⟨rfl, hp.below⟩)
theorem check_h2 (vw nm bs : Int) (im : ByteArray) (ea : Option Addr) (es : List Env) (ec : Nat) (hs : Kv.Small ⟨vw, nm, bs, im, ea, es, ec⟩) (w : World) (ha : RowIs w ea (es.flatMap envL)) (h1 : inM vw 0 900000000 = true) (h2 : inM nm 0 vw = false) : Calls Tryz.prog 27 #[.agg #[.int .i64 vw, .int .i64 nm, .int .i64 bs, .string im, .slice ea es.length ec]] w fun e w' => e = .returned (.int .i64 1) ∧ Below w.heap.size w w' := by
  have hp := Hp.start w; have HA := Lib.hid ha; have hsl : es.length ≤ 100000 := hs.1; have HL := Lib.hid hsl; have hsi : im.size ≤ 1000000 := hs.2; have HIM : RowKit.Hid (im.size ≤ 1000000000) := Lib.hid (by omega); clear ha hs hsi
  have H1 := Lib.hid h1
  have H2 := Lib.hid h2
  clear h1 h2 hsl
  go_enter Tryz.func27, Tryz.ntmps27
  go_wp2_with (first | go_skip | (first | (refine hA1 ?_; clear hp; intro b w1 hp) | refine hL11 ?_ | (refine hS0 ?_; clear hp; intro w1 hp))); refine wp_scope_fwd 0 rfl ?_; go_wp2_with (first | (go_at_call 57; (with_reducible refine (within_lit vw 0 900000000 _ H1.out _).mono ?_); rintro e w' ⟨rfl, rfl⟩) | (go_at_call 57; (with_reducible refine (within_lit nm 0 vw _ H2.out _).mono ?_); rintro e w' ⟨rfl, rfl⟩) | (go_at_call 57; (with_reducible refine (within_lit bs 0 900000000 _ H3.out _).mono ?_); rintro e w' ⟨rfl, rfl⟩) | (go_at_call 58; (with_reducible refine (follows_lit es bs ea ec _ H5.out HL.out _ (HA.out.below hp.below)).mono ?_); rintro e w1 ⟨rfl, hb⟩; replace hp := hp.call hb; clear hb) | go_skip | (first | (refine hA1 ?_; clear hp; intro b w1 hp) | refine hL11 ?_ | (refine hS0 ?_; clear hp; intro w1 hp)))
  (go_step3; refine And.intro rfl ?_; go_wp2; rw [Exit.noGoto_ret])
  (go_ret; exact ⟨rfl, hp.below⟩)
theorem check_h3 (vw nm bs : Int) (im : ByteArray) (ea : Option Addr) (es : List Env) (ec : Nat) (hs : Kv.Small ⟨vw, nm, bs, im, ea, es, ec⟩) (w : World) (ha : RowIs w ea (es.flatMap envL)) (h1 : inM vw 0 900000000 = true) (h2 : inM nm 0 vw = true) (h3 : inM bs 0 900000000 = false) : Calls Tryz.prog 27 #[.agg #[.int .i64 vw, .int .i64 nm, .int .i64 bs, .string im, .slice ea es.length ec]] w fun e w' => e = .returned (.int .i64 1) ∧ Below w.heap.size w w' := by
  have hp := Hp.start w; have HA := Lib.hid ha; have hsl : es.length ≤ 100000 := hs.1; have HL := Lib.hid hsl; have hsi : im.size ≤ 1000000 := hs.2; have HIM : RowKit.Hid (im.size ≤ 1000000000) := Lib.hid (by omega); clear ha hs hsi
  have H1 := Lib.hid h1
  have H2 := Lib.hid h2
  have H3 := Lib.hid h3
  clear h1 h2 h3 hsl
  go_enter Tryz.func27, Tryz.ntmps27
  go_wp2_with (first | go_skip | (first | (refine hA1 ?_; clear hp; intro b w1 hp) | refine hL11 ?_ | (refine hS0 ?_; clear hp; intro w1 hp))); refine wp_scope_fwd 0 rfl ?_; go_wp2_with (first | (go_at_call 57; (with_reducible refine (within_lit vw 0 900000000 _ H1.out _).mono ?_); rintro e w' ⟨rfl, rfl⟩) | (go_at_call 57; (with_reducible refine (within_lit nm 0 vw _ H2.out _).mono ?_); rintro e w' ⟨rfl, rfl⟩) | (go_at_call 57; (with_reducible refine (within_lit bs 0 900000000 _ H3.out _).mono ?_); rintro e w' ⟨rfl, rfl⟩) | (go_at_call 58; (with_reducible refine (follows_lit es bs ea ec _ H5.out HL.out _ (HA.out.below hp.below)).mono ?_); rintro e w1 ⟨rfl, hb⟩; replace hp := hp.call hb; clear hb) | go_skip | (first | (refine hA1 ?_; clear hp; intro b w1 hp) | refine hL11 ?_ | (refine hS0 ?_; clear hp; intro w1 hp)))
  (go_step3; refine And.intro rfl ?_; go_wp2; rw [Exit.noGoto_ret])
  (go_ret; exact ⟨rfl, hp.below⟩)
theorem check_h4 (vw nm bs : Int) (im : ByteArray) (ea : Option Addr) (es : List Env) (ec : Nat) (hs : Kv.Small ⟨vw, nm, bs, im, ea, es, ec⟩) (w : World) (ha : RowIs w ea (es.flatMap envL)) (h1 : inM vw 0 900000000 = true) (h2 : inM nm 0 vw = true) (h3 : inM bs 0 900000000 = true) (h4 : ¬ es.length ≤ 4000) : Calls Tryz.prog 27 #[.agg #[.int .i64 vw, .int .i64 nm, .int .i64 bs, .string im, .slice ea es.length ec]] w fun e w' => e = .returned (.int .i64 1) ∧ Below w.heap.size w w' := by
  have hp := Hp.start w; have HA := Lib.hid ha; have hsl : es.length ≤ 100000 := hs.1; have HL := Lib.hid hsl; have hsi : im.size ≤ 1000000 := hs.2; have HIM : RowKit.Hid (im.size ≤ 1000000000) := Lib.hid (by omega); clear ha hs hsi
  have H1 := Lib.hid h1
  have H2 := Lib.hid h2
  have H3 := Lib.hid h3
  have e4 : decide ((4000 : Int) < (es.length : Int)) = true := by simp; omega
  clear h1 h2 h3 h4 hsl
  go_enter Tryz.func27, Tryz.ntmps27
  go_wp2_with (first | go_skip | (first | (refine hA1 ?_; clear hp; intro b w1 hp) | refine hL11 ?_ | (refine hS0 ?_; clear hp; intro w1 hp))); refine wp_scope_fwd 0 rfl ?_; go_wp2_with (first | (go_at_call 57; (with_reducible refine (within_lit vw 0 900000000 _ H1.out _).mono ?_); rintro e w' ⟨rfl, rfl⟩) | (go_at_call 57; (with_reducible refine (within_lit nm 0 vw _ H2.out _).mono ?_); rintro e w' ⟨rfl, rfl⟩) | (go_at_call 57; (with_reducible refine (within_lit bs 0 900000000 _ H3.out _).mono ?_); rintro e w' ⟨rfl, rfl⟩) | (go_at_call 58; (with_reducible refine (follows_lit es bs ea ec _ H5.out HL.out _ (HA.out.below hp.below)).mono ?_); rintro e w1 ⟨rfl, hb⟩; replace hp := hp.call hb; clear hb) | go_skip | (first | (refine hA1 ?_; clear hp; intro b w1 hp) | refine hL11 ?_ | (refine hS0 ?_; clear hp; intro w1 hp)))
  (go_step3; refine And.intro rfl ?_; go_wp2; rw [Exit.noGoto_ret])
  (go_ret; exact ⟨rfl, hp.below⟩)
theorem check_h5 (vw nm bs : Int) (im : ByteArray) (ea : Option Addr) (es : List Env) (ec : Nat) (hs : Kv.Small ⟨vw, nm, bs, im, ea, es, ec⟩) (w : World) (ha : RowIs w ea (es.flatMap envL)) (h1 : inM vw 0 900000000 = true) (h2 : inM nm 0 vw = true) (h3 : inM bs 0 900000000 = true) (h4 : es.length ≤ 4000) (h5 : folB bs 0 es = false) : Calls Tryz.prog 27 #[.agg #[.int .i64 vw, .int .i64 nm, .int .i64 bs, .string im, .slice ea es.length ec]] w fun e w' => e = .returned (.int .i64 1) ∧ Below w.heap.size w w' := by
  have hp := Hp.start w; have HA := Lib.hid ha; have hsl : es.length ≤ 100000 := hs.1; have HL := Lib.hid hsl; have hsi : im.size ≤ 1000000 := hs.2; have HIM : RowKit.Hid (im.size ≤ 1000000000) := Lib.hid (by omega); clear ha hs hsi
  have H1 := Lib.hid h1
  have H2 := Lib.hid h2
  have H3 := Lib.hid h3
  have H5 := Lib.hid h5
  have e4 : decide ((4000 : Int) < (es.length : Int)) = false := by simp; omega
  clear h1 h2 h3 h4 h5 hsl
  go_enter Tryz.func27, Tryz.ntmps27
  go_wp2_with (first | go_skip | (first | (refine hA1 ?_; clear hp; intro b w1 hp) | refine hL11 ?_ | (refine hS0 ?_; clear hp; intro w1 hp))); refine wp_scope_fwd 0 rfl ?_; go_wp2_with (first | (go_at_call 57; (with_reducible refine (within_lit vw 0 900000000 _ H1.out _).mono ?_); rintro e w' ⟨rfl, rfl⟩) | (go_at_call 57; (with_reducible refine (within_lit nm 0 vw _ H2.out _).mono ?_); rintro e w' ⟨rfl, rfl⟩) | (go_at_call 57; (with_reducible refine (within_lit bs 0 900000000 _ H3.out _).mono ?_); rintro e w' ⟨rfl, rfl⟩) | (go_at_call 58; (with_reducible refine (follows_lit es bs ea ec _ H5.out HL.out _ (HA.out.below hp.below)).mono ?_); rintro e w1 ⟨rfl, hb⟩; replace hp := hp.call hb; clear hb) | go_skip | (first | (refine hA1 ?_; clear hp; intro b w1 hp) | refine hL11 ?_ | (refine hS0 ?_; clear hp; intro w1 hp)))
  (go_step3; refine And.intro rfl ?_; go_wp2; rw [Exit.noGoto_ret])
  (go_ret; exact ⟨rfl, hp.below⟩)
set_option maxRecDepth 100000 in
set_option maxHeartbeats 8000000 in
theorem check_h6 (vw nm bs : Int) (im : ByteArray) (ea : Option Addr) (es : List Env) (ec : Nat) (hs : Kv.Small ⟨vw, nm, bs, im, ea, es, ec⟩) (w : World) (ha : RowIs w ea (es.flatMap envL)) (h1 : inM vw 0 900000000 = true) (h2 : inM nm 0 vw = true) (h3 : inM bs 0 900000000 = true) (h4 : es.length ≤ 4000) (h5 : folB bs 0 es = true) :
    Calls Tryz.prog 27 #[.agg #[.int .i64 vw, .int .i64 nm, .int .i64 bs, .string im, .slice ea es.length ec]] w fun e w' => e = .returned (.int .i64 (if (entsB nm 0 es && (stateR (strB im)).isSome) = true then 0 else 1)) ∧ Below w.heap.size w w' := by
  have hp := Hp.start w; have HA := Lib.hid ha; have hsl : es.length ≤ 100000 := hs.1; have HL := Lib.hid hsl; have hsi : im.size ≤ 1000000 := hs.2; have HIM : RowKit.Hid (im.size ≤ 1000000000) := Lib.hid (by omega); clear ha hs hsi
  have H1 := Lib.hid h1
  have H2 := Lib.hid h2
  have H3 := Lib.hid h3
  have H5 := Lib.hid h5
  have e4 : decide ((4000 : Int) < (es.length : Int)) = false := by simp; omega
  clear h1 h2 h3 h4 h5 hsl
  go_enter Tryz.func27, Tryz.ntmps27
  go_wp2_with (first | go_skip | (first | (refine hA1 ?_; clear hp; intro b w1 hp) | refine hL11 ?_ | (refine hS0 ?_; clear hp; intro w1 hp))); refine wp_scope_fwd 0 rfl ?_; go_wp2_with (first | (go_at_call 57; (with_reducible refine (within_lit vw 0 900000000 _ H1.out _).mono ?_); rintro e w' ⟨rfl, rfl⟩) | (go_at_call 57; (with_reducible refine (within_lit nm 0 vw _ H2.out _).mono ?_); rintro e w' ⟨rfl, rfl⟩) | (go_at_call 57; (with_reducible refine (within_lit bs 0 900000000 _ H3.out _).mono ?_); rintro e w' ⟨rfl, rfl⟩) | (go_at_call 58; (with_reducible refine (follows_lit es bs ea ec _ H5.out HL.out _ (HA.out.below hp.below)).mono ?_); rintro e w1 ⟨rfl, hb⟩; replace hp := hp.call hb; clear hb) | go_skip | (first | (refine hA1 ?_; clear hp; intro b w1 hp) | refine hL11 ?_ | (refine hS0 ?_; clear hp; intro w1 hp)))
  obtain ⟨bk, hbk⟩ := hp.id0
  subst hbk
  have hsl := HL.out
  go_loopg [3, 43] es.length (fun k v i wr => ∃ (q : Nat) (vq : Int), k + q = es.length ∧ i = .int .i64 q ∧ v = .int .i64 vq ∧ RowKit.Hid (entsB nm 0 es = entsB nm vq (es.drop q)) ∧ Hp w.heap.size w wr [⟨bk, [.int .i64 vw, .int .i64 nm, .int .i64 bs, .string im, .slice ea es.length ec], 24, 5⟩])
  case atStart => exact ⟨0, 0, by omega, rfl, rfl, Lib.hid rfl, hp⟩
  case round =>
    clear hp
    obtain ⟨q, vq, hkq, rfl, rfl, HF, hp⟩ := hrel
    by_cases hlt : q < es.length
    · obtain ⟨bq, off, rfl, hx⟩ := HA.out.elems 11 envL_len11 (by omega) (by omega)
      have hj := List.getElem?_eq_getElem hlt
      replace hx := hx q _ hj
      have hd := List.drop_eq_getElem_cons hlt
      clear hj
      generalize es[q] = en at hx hd
      obtain ⟨nu, vi, cl, sq, ⟨kk, hh, ii, nn, cc, vv, tt⟩⟩ := en
      simp only [envL, opL, List.cons_append, List.nil_append] at hx
      have HX := Lib.hid hx
      have HF2 : RowKit.Hid (entsB nm 0 es = (mayE ⟨nu, vi, cl, sq, ⟨kk, hh, ii, nn, cc, vv, tt⟩⟩ && (inM vi vq nm && entsB nm vi (es.drop (q + 1))))) := Lib.hid (by rw [HF.out, hd]; rfl)
      have f1 : (0 : Int) ≤ (q : Int) := by omega
      have f2 : (q : Int) < (es.length : Int) := by omega
      clear hx hd HF
      cases hm : mayE ⟨nu, vi, cl, sq, ⟨kk, hh, ii, nn, cc, vv, tt⟩⟩ with
      | false =>
        have HM := Lib.hid hm
        clear hm
        go_wp2_with (first | (go_at_call 35; (with_reducible refine (may_lit _ _ _ _ _ _ _ _ _ _ _ _ HM.out _).mono ?_); rintro e w1 ⟨rfl, hb⟩; replace hp := hp.call hb; clear hb) | go_skip | (first | (refine hA1 ?_; clear hp; intro b w1 hp) | refine hL11 ?_ | (refine hS0 ?_; clear hp; intro w1 hp)))
        (go_step3; refine And.intro rfl ?_; go_wp2; rw [Exit.noGoto_ret])
        go_ret
        refine ⟨?_, hp.below⟩
        rw [HF2.out, HM.out]; rfl
      | true =>
        have HM := Lib.hid hm
        clear hm
        cases hv : inM vi vq nm with
        | false =>
          have HV := Lib.hid hv
          clear hv
          go_wp2_with (first | (go_at_call 35; (with_reducible refine (may_lit _ _ _ _ _ _ _ _ _ _ _ _ HM.out _).mono ?_); rintro e w1 ⟨rfl, hb⟩; replace hp := hp.call hb; clear hb) | (go_at_call 57; (with_reducible refine (within_lit vi vq nm _ HV.out _).mono ?_); rintro e w' ⟨rfl, rfl⟩) | go_skip | (first | (refine hA1 ?_; clear hp; intro b w1 hp) | refine hL11 ?_ | (refine hS0 ?_; clear hp; intro w1 hp)))
          (go_step3; refine And.intro rfl ?_; go_wp2; rw [Exit.noGoto_ret])
          go_ret
          refine ⟨?_, hp.below⟩
          rw [HF2.out, HM.out, HV.out]; rfl
        | true =>
          have HV := Lib.hid hv
          clear hv
          go_wp2_with (first | (go_at_call 35; (with_reducible refine (may_lit _ _ _ _ _ _ _ _ _ _ _ _ HM.out _).mono ?_); rintro e w1 ⟨rfl, hb⟩; replace hp := hp.call hb; clear hb) | (go_at_call 57; (with_reducible refine (within_lit vi vq nm _ HV.out _).mono ?_); rintro e w' ⟨rfl, rfl⟩) | go_skip | (first | (refine hA1 ?_; clear hp; intro b w1 hp) | refine hL11 ?_ | (refine hS0 ?_; clear hp; intro w1 hp)))
          go_roundg (gk - 1)
          case measure => omega
          case rel => exact ⟨q + 1, vi, by omega, by go_num, rfl, Lib.hid (by rw [HF2.out, HM.out, HV.out]; simp), hp.tail⟩
    · obtain rfl : q = es.length := by omega
      have e2 : decide ((es.length : Int) < (es.length : Int)) = false := by simp
      have HE : RowKit.Hid (entsB nm 0 es = true) := Lib.hid (by rw [HF.out, List.drop_length]; rfl)
      clear hkq hlt HF
      cases hst : stateR (strB im) with
      | none =>
        have HS := Lib.hid hst
        clear hst
        go_wp2_with (first | ((with_reducible refine pre_convert _ _ _ rfl ?_); refine wpList_convB hp 9 89 5 _ rfl wy Tryz.underlying9 Tryz.underlying89 Tryz.underlying5 _ (sTm rfl) ?_; clear hp; intro ad cb w1 hcb had hp; have HCB := Lib.hid hcb; have HAD := Lib.hid had; clear hcb had; simp only [put_some, put_none, sSet, zSet]) | (go_at_call 59; (with_reducible refine (gets_no im HS.out ad cb HCB.out HIM.out _ HAD.out).mono ?_); rintro e w1 ⟨rfl, hb⟩; replace hp := hp.call hb; clear hb) | go_skip | (first | (refine hA1 ?_; clear hp; intro b w1 hp) | refine hL11 ?_ | (refine hS0 ?_; clear hp; intro w1 hp)))
        go_step3
        go_wp2
        try simp only [Exit.inBlock, Exit.then]
        refine jump_ret ?_
        go_ret
        refine ⟨?_, hp.below⟩
        rw [HE.out, HS.out]; rfl
      | some x =>
        have HS := Lib.hid hst
        clear hst
        go_wp2_with (first | ((with_reducible refine pre_convert _ _ _ rfl ?_); refine wpList_convB hp 9 89 5 _ rfl wy Tryz.underlying9 Tryz.underlying89 Tryz.underlying5 _ (sTm rfl) ?_; clear hp; intro ad cb w1 hcb had hp; have HCB := Lib.hid hcb; have HAD := Lib.hid had; clear hcb had; simp only [put_some, put_none, sSet, zSet]) | (go_at_call 59; (with_reducible refine (gets_yes im _ HS.out ad cb HCB.out HIM.out _ HAD.out).mono ?_); rintro e w1 ⟨odX, oaX, osX, ocX, nxX, t0X, t1X, t2X, t3X, faX, fsX, fcX, raX, rsX, rcX, RX, rfl, _, _, hpn⟩; replace hp := hp.join hpn; clear hpn; simp only [List.cons_append, List.nil_append] at hp) | go_skip | (first | (refine hA1 ?_; clear hp; intro b w1 hp) | refine hL11 ?_ | (refine hS0 ?_; clear hp; intro w1 hp)))
        try simp only [Exit.inBlock, Exit.then]
        refine jump_ret ?_
        go_ret
        refine ⟨?_, hp.below⟩
        rw [HE.out, HS.out]; rfl
theorem check27L (vw nm bs : Int) (im : ByteArray) (ea : Option Addr) (es : List Env) (ec : Nat) (b : Bool) (hb : okC ⟨vw, nm, bs, im, ea, es, ec⟩ = b) (hs : Kv.Small ⟨vw, nm, bs, im, ea, es, ec⟩) (w : World) (ha : RowIs w ea (es.flatMap envL)) :
    Calls Tryz.prog 27 #[.agg #[.int .i64 vw, .int .i64 nm, .int .i64 bs, .string im, .slice ea es.length ec]] w fun e w' => e = .returned (.int .i64 (if b = true then 0 else 1)) ∧ Below w.heap.size w w' := by
  subst hb
  unfold okC
  simp only
  cases h1 : inM vw 0 900000000 with
  | false => exact check_h1 vw nm bs im ea es ec hs w ha h1
  | true =>
    cases h2 : inM nm 0 vw with
    | false => exact check_h2 vw nm bs im ea es ec hs w ha h1 h2
    | true =>
      cases h3 : inM bs 0 900000000 with
      | false => exact check_h3 vw nm bs im ea es ec hs w ha h1 h2 h3
      | true =>
        by_cases h4 : es.length ≤ 4000
        · cases h5 : folB bs 0 es with
          | false =>
            have := check_h5 vw nm bs im ea es ec hs w ha h1 h2 h3 h4 h5
            simpa [h4] using this
          | true =>
            have := check_h6 vw nm bs im ea es ec hs w ha h1 h2 h3 h4 h5
            simpa [h4] using this
        · have := check_h4 vw nm bs im ea es ec hs w ha h1 h2 h3 h4
          simpa [h4] using this
end Go.Proofs.YtcjbepaclbhjaaaGreat
