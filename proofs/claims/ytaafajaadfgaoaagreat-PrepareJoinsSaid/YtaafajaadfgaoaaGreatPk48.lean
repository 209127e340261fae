/- Parts of the proof. -/
import Derived.Test.YtaafajaadfgaoaaGreatPk46
import Derived.Test.YtaafajaadfgaoaaGreatPk42
import Derived.Test.YtaafajaadfgaoaaGreatPk47
open List renaming set_cons_zero → zSet, set_cons_succ → sSet
/- The walk of the law PrepareSaved. -/
set_option linter.unusedSimpArgs false
set_option linter.unusedVariables false
namespace Go.Proofs.YtaafajaadfgaoaaGreat
open Go.RowKit
def Std (w0 : World) (R : List Blk) (P : World → Prop) : Prop := ∀ (w : World) (L : List Blk), Hp w0.heap.size w0 w L → (∀ p ∈ R, p ∈ L) → P w
theorem Std.at {w0 : World} {R : List Blk} {P : World → Prop} (h : Std w0 R P) {w : World} {L : List Blk} (hp : Hp w0.heap.size w0 w L) (hm : ∀ p ∈ R, p ∈ L) : P w := h w L hp hm
theorem Std.ofRow {w0 : World} {a : Option Addr} {xs : List Value} (h : RowIs w0 a xs) : Std w0 [] (fun w => RowIs w a xs) := fun w L hp _ => h.below hp.below
theorem Std.mono {w0 : World} {R R' : List Blk} {P : World → Prop} (h : Std w0 R P) (hs : ∀ p ∈ R, p ∈ R') : Std w0 R' P := fun w L hp hm => h w L hp (fun p hq => hm p (hs p hq))
theorem big_s (vw nm bs : Int) (im : ByteArray) (ea : Option Addr) (es : List Env) (ec : Nat) (ra : Option Addr) (rs : List Env) (rc : Nat) (w : World) : Calls Tryz.prog 13 #[.agg #[.int .i64 vw, .int .i64 nm, .int .i64 bs, .string im, .slice ea es.length ec], .agg #[.int .i64 0, .int .i64 0, .int .i64 0, .int .i64 0, .string ⟨#[]⟩, .int .i64 0, .int .i64 0, .int .i64 0, .int .i64 0, .int .i64 0, .int .i64 0, .int .i64 0, .int .i64 0, .int .i64 0, .int .i64 0, .int .i64 0, .slice ra rs.length rc]] w (BigP w es.length rs.length im.size 0) :=
  big13 vw nm bs im ea es ec 0 0 0 0 ⟨#[]⟩ 0 0 0 0 0 0 0 0 0 0 0 ra rs rc w
end Go.Proofs.YtaafajaadfgaoaaGreat
/- The walk of the law PrepareJoins. -/
namespace Go.Proofs.YtaafajaadfgaoaaGreat
open Go.RowKit
theorem ceQRd0 {ty : TypeId} (h : cellB Tryz.prog ty = true := by with_reducible first | exact cell3 | exact cell4 | exact cell22 | exact cell87) : cellB Tryz.prog ty = true := h
theorem known_b2 (vw nm bs : Int) (im : ByteArray) (ea : Option Addr) (es : List Env) (ec : Nat) (cm ci si : Int) (b : Bool) (hb : knownB ⟨vw, nm, bs, im, ea, es, ec⟩ cm ci si = b) (hs : Kv.Small ⟨vw, nm, bs, im, ea, es, ec⟩) (w : World) (ha : RowIs w ea (es.flatMap envL)) :
    Calls Tryz.prog 59 #[.agg #[.int .i64 vw, .int .i64 nm, .int .i64 bs, .string im, .slice ea es.length ec], .int .i64 cm, .int .i64 ci, .int .i64 si] w fun e w' => e = .returned (.bool b) ∧ Below w.heap.size w w' := hb ▸ known59L vw nm bs im ea es ec cm ci si hs w ha
set_option maxRecDepth 100000 in
set_option maxHeartbeats 16000000 in
theorem law11 (vw nm bs : Int) (im : ByteArray) (ea : Option Addr) (es : List Env) (ec : Nat) (n : Int) (la : Option Addr) (l : List Env) (lc : Nat) (cm ci si : Int) (w : World) (ha : RowIs w ea (es.flatMap envL)) (hla : RowIs w la (l.flatMap envL)) :
    Calls Tryz.prog 11 #[.agg #[.int .i64 vw, .int .i64 nm, .int .i64 bs, .string im, .slice ea es.length ec], .int .i64 n, .slice la l.length lc, .int .i64 cm, .int .i64 ci, .int .i64 si] w fun e w' => e = .returned (.bool true) ∧ Below w.heap.size w w' := by
  obtain ⟨i0, hi0, hz0, hz1, hz2⟩ := info_parts info31
  have hp := Hp.start w
  have HA := Lib.hid ha
  have HLA := Lib.hid hla
  clear ha hla
  go_enter Tryz.func11, Tryz.ntmps11
  go_wp2_with (first | (go_at_call 13; (with_reducible refine (big_s vw nm bs im ea es ec la l lc _).mono ?_); rintro e w1 ⟨bb, rfl, hbb, hb⟩; replace hp := hp.call hb; clear hb; cases bb) | go_skip | ((first | ((with_reducible refine pre_alloc _ rfl ?_); refine lZ hp rfl zero24 ?_; clear hp; intro b w1 hp) | ((with_reducible refine pre_box _ _ rfl ?_); refine lB hp rfl (sTm rfl) rfl ?_; clear hp; intro b w1 hp) | ((with_reducible refine pre_load _ _ rfl ?_); first | refine lO hp rfl (sTm rfl) ceQRd0 aa5 ?_ | refine lA hp rfl (sTm rfl) agg24 aa5 ?_) | ((with_reducible refine pre_store _ _ _ rfl ?_); (first | refine sO hp rfl (sTm rfl) ceQRd0 aa5 ?_ | refine sA hp rfl (sTm rfl) (sTm rfl) agg24 aa5 ?_ | refine sG hp rfl (sTm rfl) (sTm rfl) agg24 aa5 ?_); clear hp; intro w1 hp; simp only [spl, zSet, sSet] at hp)); simp only [put_some, put_none, sSet, zSet]))
  · obtain ⟨h1, h2, h3, _⟩ := hbb (by first | rfl | trivial)
    have HEL : RowKit.Hid (es.length ≤ 100000) := Lib.hid (by omega)
    have HLL : RowKit.Hid (l.length ≤ 100000) := Lib.hid (by omega)
    have HS1 : RowKit.Hid (0 + l.length ≤ maxLen) := Lib.hid (by unfold maxLen; omega)
    have HS2 : RowKit.Hid ((0 + l.length) * 88 ≤ 140737488355328) := Lib.hid (by omega)
    have HSX : RowKit.Hid (Kv.Small ⟨vw, nm, bs, im, ea, es, ec⟩) := Lib.hid ⟨by simp only; omega, by simp only; omega⟩
    obtain ⟨jb, hjb⟩ : ∃ jb, joinB ⟨vw, nm, bs, im, ea, es, ec⟩ n l = jb := ⟨_, rfl⟩
    obtain ⟨jf, hjf⟩ : ∃ jf, (if jb = true then joinF ⟨vw, nm, bs, im, ea, es, ec⟩ l else []) = jf := ⟨_, rfl⟩
    obtain ⟨jq, hjq⟩ : ∃ jq, jf.length = jq := ⟨_, rfl⟩
    obtain ⟨kb, hkb⟩ : ∃ kb, knownB ⟨vw, nm, bs, im, ea, es, ec⟩ cm ci si = kb := ⟨_, rfl⟩
    have HJB := Lib.hid hjb
    have HJF := Lib.hid hjf
    have HJQ := Lib.hid hjq
    have HKB := Lib.hid hkb
    have HJL : RowKit.Hid (jq ≤ 100000) := Lib.hid (by
      rw [← hjq, ← hjf]
      split
      · have := List.length_filter_le (fun e : Env => decide (lastK ⟨vw, nm, bs, im, ea, es, ec⟩ < e.nu)) l
        unfold joinF; omega
      · simp)
    clear hbb h1 h2 h3 hjb hjf hjq hkb
    go_wp2_with (first | (go_at_call 32; (with_reducible refine (own1532L vw nm bs im ea es ec HEL.out _ (HA.out.below hp.below)).mono ?_); rintro e w1 ⟨eo, co, RO, rfl, hro, hpn⟩; replace hp := hp.join hpn; have HRO := Lib.hid hro; clear hpn hro; simp only [List.cons_append, List.nil_append] at hp) | ((with_reducible refine pre_append2 _ _ 22 22 rfl ?_); refine wpList_appendSub (K := [_, _]) (R := []) (M := RO) hp _ _ _ _ rfl wy 31 i0 _ 11 88 Tryz.underlying22 hi0 hz0 hz1 hz2 rfl _ _ _ (sTm rfl) (SubRow.nil _ _ _) _ (sTm rfl) l.length _ (Src.ofRow Tryz.underlying22 (by decide) la l.length lc _ (by rw [flat_len envL 11 envL_len11]) (HLA.out.below hp.below) (env_one _)) HS1.out HS2.out ?_; clear hp; intro v' RL w1 hRL hp; rw [Nat.zero_add, List.nil_append] at hRL; obtain ⟨lo, ko, rfl, _⟩ := hRL.kept; have HRL := Lib.hid hRL; clear hRL; simp only [List.cons_append, List.nil_append] at hp; simp only [put_some, put_none, sSet, zSet]) | go_skip | ((first | ((with_reducible refine pre_alloc _ rfl ?_); refine lZ hp rfl zero24 ?_; clear hp; intro b w1 hp) | ((with_reducible refine pre_box _ _ rfl ?_); refine lB hp rfl (sTm rfl) rfl ?_; clear hp; intro b w1 hp) | ((with_reducible refine pre_load _ _ rfl ?_); first | refine lO hp rfl (sTm rfl) ceQRd0 aa5 ?_ | refine lA hp rfl (sTm rfl) agg24 aa5 ?_) | ((with_reducible refine pre_store _ _ _ rfl ?_); (first | refine sO hp rfl (sTm rfl) ceQRd0 aa5 ?_ | refine sA hp rfl (sTm rfl) (sTm rfl) agg24 aa5 ?_ | refine sG hp rfl (sTm rfl) (sTm rfl) agg24 aa5 ?_); clear hp; intro w1 hp; simp only [spl, zSet, sSet] at hp)); simp only [put_some, put_none, sSet, zSet]))
    have HSO : RowKit.Hid (Kv.Small ⟨vw, nm, bs, im, eo, es, co⟩) := Lib.hid HSX.out
    have HJBO : RowKit.Hid (joinB ⟨vw, nm, bs, im, eo, es, co⟩ n l = jb) := Lib.hid HJB.out
    have HJFO : RowKit.Hid ((if jb = true then joinF ⟨vw, nm, bs, im, eo, es, co⟩ l else []) = jf) := Lib.hid HJF.out
    have HKBO : RowKit.Hid (knownB ⟨vw, nm, bs, im, eo, es, co⟩ cm ci si = kb) := Lib.hid HKB.out
    go_wp2_with (first | (go_at_call 55; (with_reducible refine (join_lit vw nm bs im ea es _ ec rfl n la l _ lc rfl HSX.out HLL.out _ (HA.out.below hp.below) (HLA.out.below hp.below) jb jf jq HJB.out HJF.out HJQ.out).mono ?_); rintro e w1 ⟨aj, kj, RJ, rfl, hkj, hpn⟩; replace hp := hp.join hpn; have HKJ := Lib.hid hkj; clear hpn hkj; simp only [List.cons_append, List.nil_append, List.append_assoc] at hp) | (go_at_call 56; (with_reducible refine (rjoin_lit vw nm bs im eo es _ co rfl n lo l _ ko rfl HSO.out HLL.out _ (HRO.out.keptS.at hp (fun p hm => by simp [hm])) (HRL.out.keptS.at hp (fun p hm => by simp [hm])) jb jf jq HJBO.out HJFO.out HJQ.out).mono ?_); rintro e w1 ⟨ar, kr, RR, rfl, hkr, hpn⟩; replace hp := hp.join hpn; have HKR := Lib.hid hkr; clear hpn hkr; simp only [List.cons_append, List.nil_append, List.append_assoc] at hp) | go_skip | ((first | ((with_reducible refine pre_alloc _ rfl ?_); refine lZ hp rfl zero24 ?_; clear hp; intro b w1 hp) | ((with_reducible refine pre_box _ _ rfl ?_); refine lB hp rfl (sTm rfl) rfl ?_; clear hp; intro b w1 hp) | ((with_reducible refine pre_load _ _ rfl ?_); first | refine lO hp rfl (sTm rfl) ceQRd0 aa5 ?_ | refine lA hp rfl (sTm rfl) agg24 aa5 ?_) | ((with_reducible refine pre_store _ _ _ rfl ?_); (first | refine sO hp rfl (sTm rfl) ceQRd0 aa5 ?_ | refine sA hp rfl (sTm rfl) (sTm rfl) agg24 aa5 ?_ | refine sG hp rfl (sTm rfl) (sTm rfl) agg24 aa5 ?_); clear hp; intro w1 hp; simp only [spl, zSet, sSet] at hp)); simp only [put_some, put_none, sSet, zSet]))
    refine wp_region_keeps _ (Keeps.all hp.drew) [] [(0, false), (1, true), (2, true), (3, true), (4, true), (5, true), (6, true), (7, true), (8, true), (9, false), (10, true), (11, true), (12, true), (13, true), (14, true), (15, true), (17, true), (18, true), (19, true), (20, true), (16, false), (21, false), (22, true), (23, true), (24, true), (25, true), (26, true), (27, false), (28, true), (29, true), (30, true), (31, true), (32, false), (33, true), (34, false)] (by kernel_rfl) (by kernel_rfl) rfl (by kernel_rfl) (fun _ _ d _ _ h => by cases d <;> exact h) ?_
    replace hp := hp.drew
    repeat' (with_reducible refine plan_is ?_); first | (with_reducible refine plan_nil ?_) | ((with_reducible refine plan_t ?_); refine plan_tk rfl ?_; (first | ((with_reducible refine tk_gd _ _ rfl ?_); refine tS (by first | exact wanted_no rfl rfl rfl rfl | exact wanted_nu rfl rfl rfl rfl) ?_) | ((with_reducible refine tk_mv _ rfl ?_); refine tM rfl ?_) | ((with_reducible refine tk_ld _ _ rfl ?_); refine tA rfl (sTm rfl) agg24 aa5 ?_) | refine tG (fun w _ => (by go_simp; try rfl)) ?_); try simp only [put_some, put_none, eval_tmp, eval_const, sSet, zSet, List.getD_cons_succ, List.getD_cons_zero, wrap_eq, beq_self_eq_true]) | (refine plan_do rfl (fun K hK => ?_); go_wp2_with (first | (go_at_call 57; (with_reducible refine (joins57 _).mono ?_); rintro e w1 ⟨rfl, hb⟩; replace hp := hp.call hb; clear hb) | (go_at_call 58; (with_reducible refine (records15S jf aj ar jq kj kr HJQ.out HJL.out _ (HKJ.out.at hp (fun p hm => by simp [hm])) (HKR.out.at hp (fun p hm => by simp [hm]))).mono ?_); rintro e w1 ⟨rfl, hb⟩; replace hp := hp.call hb; clear hb) | (go_at_call 59; (with_reducible refine (known_b2 vw nm bs im ea es ec cm ci si kb HKB.out HSX.out _ (HA.out.below hp.below)).mono ?_); rintro e w1 ⟨rfl, hb⟩; replace hp := hp.call hb; clear hb) | (go_at_call 60; (with_reducible refine (rknown60L vw nm bs im eo es co cm ci si kb HKBO.out HSO.out _ (HRO.out.keptS.at hp (fun p hm => by simp [hm]))).mono ?_); rintro e w1 ⟨rfl, hb⟩; replace hp := hp.call hb; clear hb) | (go_at_call 34; (with_reducible refine (same15S vw nm bs im ea eo es ec co HEL.out _ (HA.out.below hp.below) (HRO.out.keptS.at hp (fun p hm => by simp [hm]))).mono ?_); rintro e w1 ⟨rfl, hb⟩; replace hp := hp.call hb; clear hb) | (go_at_call 61; (with_reducible refine (entries12S l la lo _ _ lc ko rfl rfl HLL.out _ (HLA.out.below hp.below) (HRL.out.keptS.at hp (fun p hm => by simp [hm]))).mono ?_); rintro e w1 ⟨rfl, hb⟩; replace hp := hp.call hb; clear hb) | go_skip); (refine hK.out _ _ (.inr (kall hp)) ?_); clear hK K; try simp only [put_some, put_none, eval_tmp, eval_const, sSet, zSet, List.getD_cons_succ, List.getD_cons_zero, wrap_eq, beq_self_eq_true])
    go_wp2_with (first | go_skip | ((first | ((with_reducible refine pre_alloc _ rfl ?_); refine lZ hp rfl zero24 ?_; clear hp; intro b w1 hp) | ((with_reducible refine pre_box _ _ rfl ?_); refine lB hp rfl (sTm rfl) rfl ?_; clear hp; intro b w1 hp) | ((with_reducible refine pre_load _ _ rfl ?_); first | refine lO hp rfl (sTm rfl) ceQRd0 aa5 ?_ | refine lA hp rfl (sTm rfl) agg24 aa5 ?_) | ((with_reducible refine pre_store _ _ _ rfl ?_); (first | refine sO hp rfl (sTm rfl) ceQRd0 aa5 ?_ | refine sA hp rfl (sTm rfl) (sTm rfl) agg24 aa5 ?_ | refine sG hp rfl (sTm rfl) (sTm rfl) agg24 aa5 ?_); clear hp; intro w1 hp; simp only [spl, zSet, sSet] at hp)); simp only [put_some, put_none, sSet, zSet]))
    go_ret
    exact ⟨rfl, hp.below⟩
  · go_wp2_with (first | go_skip | ((first | ((with_reducible refine pre_alloc _ rfl ?_); refine lZ hp rfl zero24 ?_; clear hp; intro b w1 hp) | ((with_reducible refine pre_box _ _ rfl ?_); refine lB hp rfl (sTm rfl) rfl ?_; clear hp; intro b w1 hp) | ((with_reducible refine pre_load _ _ rfl ?_); first | refine lO hp rfl (sTm rfl) ceQRd0 aa5 ?_ | refine lA hp rfl (sTm rfl) agg24 aa5 ?_) | ((with_reducible refine pre_store _ _ _ rfl ?_); (first | refine sO hp rfl (sTm rfl) ceQRd0 aa5 ?_ | refine sA hp rfl (sTm rfl) (sTm rfl) agg24 aa5 ?_ | refine sG hp rfl (sTm rfl) (sTm rfl) agg24 aa5 ?_); clear hp; intro w1 hp; simp only [spl, zSet, sSet] at hp)); simp only [put_some, put_none, sSet, zSet]))
    go_ret
    exact ⟨rfl, hp.below⟩
end Go.Proofs.YtaafajaadfgaoaaGreat
