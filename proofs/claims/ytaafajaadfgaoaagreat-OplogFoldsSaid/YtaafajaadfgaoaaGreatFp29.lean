import Derived.Test.YtaafajaadfgaoaaGreatFp20
import Derived.Test.YtaafajaadfgaoaaGreatFp18
import Derived.WalkMore
import Derived.ScopeJumps
import Derived.Test.YtaafajaadfgaoaaGreatFp1
set_option linter.unusedSimpArgs false
set_option linter.unusedVariables false
set_option maxRecDepth 100000
set_option maxHeartbeats 60000000
namespace Go.Proofs.YtaafajaadfgaoaaGreat
open Go.RowKit
theorem Zu {ty : TypeId} {k : Nat} (h : zac Tryz.prog ty k = true := by with_reducible first | exact Zq | exact zF | exact zaR) : zac Tryz.prog ty k = true := h
theorem zat {ty : TypeId} (h : zB Tryz.prog ty = true := by with_reducible first | exact zq | exact zA | exact zO | exact ZL | exact Ze) : zB Tryz.prog ty = true := h
theorem zaI {P : Program} {a : Act} {w : World} {Q : Exit → Act → World → Prop} {c rest : Code} (l : Nat) (hf : findLabel c l = some rest)
  (h : c.wp P (Exit.jump l (fun a w => rest.wp P (Exit.noGoto Q) a w) Q) a w) : (Code.scope c).wp P Q a w :=
 wp_scope_jumps l (fun a w => rest.wp P (Exit.noGoto Q) a w) (fun _ _ => 0) hf h fun a w hJ => Code.wp_mono (fun e a' w' hq => by cases e <;> first | exact hq.elim | exact hq) hJ
theorem zhI {Q : Exit → Act → World → Prop} {J : Act → World → Prop} {l : Nat} {a : Act} {w : World} (h : Q .ret a w) : Exit.jump l J Q .ret a w := h
def zbj (nm : Int) : Int → List Env → Bool
 | _, [] => true
 | v, e :: r => zdR e && (inM e.vi v nm && zbj nm e.vi r)
noncomputable def okC (x : Kv) : Bool := inM x.vw 0 900000000 && (inM x.nm 0 x.vw && (inM x.bs 0 900000000 && (decide (x.es.length ≤ 4000) && (zc5 x.bs 0 x.es && (zbj x.nm 0 x.es && (Zz (zbG x.im)).isSome)))))
def Kv.Small (x : Kv) : Prop := x.es.length ≤ 100000 ∧ x.im.size ≤ 1000000
theorem zdv {x y : Kv} (h : x.Sm y) : okC x = okC y := by unfold okC; rw [h.vw, h.nm, h.bs, h.im, h.es]
def zor (w : World) (x : Sv) (e : Ending) (w' : World) : Prop := ∃ od oa os oc nx t0 t1 t2 t3 fa fs fc ra rs rc R, e = .returned (.tuple #[.agg #[.int .i64 od, .slice oa (List.length os) oc, .int .i64 nx, .int .i64 t0, .int .i64 t1, .int .i64 t2, .int .i64 t3, .slice fa (List.length fs) fc, .slice ra (List.length rs) rc], .int .i64 0]) ∧ Sv.Sm ⟨⟨od, oa, os, oc, nx, t0, t1, t2, t3, fa, fs, fc⟩, ra, rs, rc⟩ x ∧ SvO ⟨⟨od, oa, os, oc, nx, t0, t1, t2, t3, fa, fs, fc⟩, ra, rs, rc⟩ R ∧ Hp w.heap.size w w' R
theorem zkZ (s : ByteArray) (x : Sv) (hr : Zz (zbG s) = some x) (ad : Option Addr) (c : Nat) (hc : s.size ≤ c) (hs : s.size ≤ 1000000000) (w : World) (ha : zaw w ad (zbG s)) : Calls Tryz.prog 37 #[.slice ad s.size c] w (zor w x) := by
 have h := zlW (zbG s) ad c (by rw [ZP]; exact hc) (by rw [ZP]; exact hs) w ha
 rw [ZP] at h
 refine h.mono fun e w' h => ?_
 rw [hr] at h
 obtain ⟨y, R, h1, h2, h3, h4⟩ := h
 obtain ⟨⟨od, oa, os, oc, nx, t0, t1, t2, t3, fa, fs, fc⟩, ra, rs, rc⟩ := y
 exact ⟨od, oa, os, oc, nx, t0, t1, t2, t3, fa, fs, fc, ra, rs, rc, R, h1, h2, h3, h4⟩
theorem zmu (s : ByteArray) (hr : Zz (zbG s) = none) (ad : Option Addr) (c : Nat) (hc : s.size ≤ c) (hs : s.size ≤ 1000000000) (w : World) (ha : zaw w ad (zbG s)) : Calls Tryz.prog 37 #[.slice ad s.size c] w fun e w' => e = .returned (.tuple #[.agg #[.int .i64 0, .slice none 0 0, .int .i64 0, .int .i64 0, .int .i64 0, .int .i64 0, .int .i64 0, .slice none 0 0, .slice none 0 0], .int .i64 60]) ∧ Below w.heap.size w w' := by
 have h := zlW (zbG s) ad c (by rw [ZP]; exact hc) (by rw [ZP]; exact hs) w ha
 rw [ZP] at h
 refine h.mono fun e w' h => ?_
 rw [hr] at h
 exact h
theorem zT (n lo hi : Int) (b : Bool) (hb : inM n lo hi = b) (w : World) : Calls Tryz.prog 136 #[.int .i64 n, .int .i64 lo, .int .i64 hi] w fun e w' => e = .returned (.bool b) ∧ w = w' := hb ▸ zks n lo hi w
theorem ZN (l : List Env) (fr : Int) (a : Option Addr) (c : Nat) (b : Bool) (hb : zc5 fr 0 l = b) (hl : l.length ≤ 100000) (w : World) (ha : zr w a (l.flatMap Zi)) :
  Calls Tryz.prog 137 #[.slice a l.length c, .int .i64 fr] w fun e w' => e = .returned (.bool b) ∧ Below w.heap.size w w' := hb ▸ zii l fr a c hl w ha
theorem zkL (vw nm bs : Int) (im : ByteArray) (ea : Option Addr) (es : List Env) (ec : Nat) (hs : Kv.Small ⟨vw, nm, bs, im, ea, es, ec⟩) (w : World) (ha : zr w ea (es.flatMap Zi)) (h1 : inM vw 0 900000000 = false) : Calls Tryz.prog 64 #[.agg #[.int .i64 vw, .int .i64 nm, .int .i64 bs, .string im, .slice ea es.length ec]] w fun e w' => e = .returned (.int .i64 1) ∧ Below w.heap.size w w' := by
 have hp := Hp.start w; have HA := z0j ha; have hsl : es.length ≤ 100000 := hs.1; have HL := z0j hsl; have hsi : im.size ≤ 1000000 := hs.2; have HIM : Hid (im.size ≤ 1000000000) := z0j (by omega); clear ha hs hsi
 have H1 := z0j h1
 clear h1 hsl
 go_enter Tryz.func64, Tryz.ntmps64
 go_wp2_with (first | go_skip | ((first | ((refine zg _ rfl ?_); refine lZ hp rfl (by with_reducible first | exact Zh | exact zU) ?_; clear hp; intro b w1 hp) | ((refine zh _ _ rfl ?_); refine lB hp rfl (za rfl) rfl ?_; clear hp; intro b w1 hp) | ((refine zf _ _ rfl ?_); first | refine lO hp rfl (za rfl) zat aa5 ?_ | refine lA hp rfl (za rfl) Zu aa5 ?_ | refine lR hp rfl (za rfl) Zu HX.out ?_) | ((refine zd _ _ _ rfl ?_); (first | refine sO hp rfl (za rfl) zat aa5 ?_ | refine sA hp rfl (za rfl) (za rfl) Zu aa5 ?_ | refine sG hp rfl (za rfl) (za rfl) Zu aa5 ?_); clear hp; intro w1 hp; simp only [spl, z0a, z0b] at hp)); simp only [zc, zb, z0b, z0a])); refine zaI 0 rfl ?_; go_wp2_with (first | (go_at_call 136; (with_reducible refine (zT vw 0 900000000 _ H1.out _).mono ?_); rintro e w' ⟨rfl, rfl⟩) | (go_at_call 136; (with_reducible refine (zT nm 0 vw _ H2.out _).mono ?_); rintro e w' ⟨rfl, rfl⟩) | (go_at_call 136; (with_reducible refine (zT bs 0 900000000 _ H3.out _).mono ?_); rintro e w' ⟨rfl, rfl⟩) | (go_at_call 137; (with_reducible refine (ZN es bs ea ec _ H5.out HL.out _ (HA.out.below hp.below)).mono ?_); rintro e w1 ⟨rfl, hb⟩; replace hp := hp.call hb; clear hb) | go_skip | ((first | ((refine zg _ rfl ?_); refine lZ hp rfl (by with_reducible first | exact Zh | exact zU) ?_; clear hp; intro b w1 hp) | ((refine zh _ _ rfl ?_); refine lB hp rfl (za rfl) rfl ?_; clear hp; intro b w1 hp) | ((refine zf _ _ rfl ?_); first | refine lO hp rfl (za rfl) zat aa5 ?_ | refine lA hp rfl (za rfl) Zu aa5 ?_ | refine lR hp rfl (za rfl) Zu HX.out ?_) | ((refine zd _ _ _ rfl ?_); (first | refine sO hp rfl (za rfl) zat aa5 ?_ | refine sA hp rfl (za rfl) (za rfl) Zu aa5 ?_ | refine sG hp rfl (za rfl) (za rfl) Zu aa5 ?_); clear hp; intro w1 hp; simp only [spl, z0a, z0b] at hp)); simp only [zc, zb, z0b, z0a]))
 (go_step3; refine And.intro rfl ?_; go_wp2; rw [Exit.noGoto_ret])
 (go_ret; exact ⟨rfl, hp.below⟩)
theorem zkM (vw nm bs : Int) (im : ByteArray) (ea : Option Addr) (es : List Env) (ec : Nat) (hs : Kv.Small ⟨vw, nm, bs, im, ea, es, ec⟩) (w : World) (ha : zr w ea (es.flatMap Zi)) (h1 : inM vw 0 900000000 = true) (h2 : inM nm 0 vw = false) : Calls Tryz.prog 64 #[.agg #[.int .i64 vw, .int .i64 nm, .int .i64 bs, .string im, .slice ea es.length ec]] w fun e w' => e = .returned (.int .i64 1) ∧ Below w.heap.size w w' := by
 have hp := Hp.start w; have HA := z0j ha; have hsl : es.length ≤ 100000 := hs.1; have HL := z0j hsl; have hsi : im.size ≤ 1000000 := hs.2; have HIM : Hid (im.size ≤ 1000000000) := z0j (by omega); clear ha hs hsi
 have H1 := z0j h1
 have H2 := z0j h2
 clear h1 h2 hsl
 go_enter Tryz.func64, Tryz.ntmps64
 go_wp2_with (first | go_skip | ((first | ((refine zg _ rfl ?_); refine lZ hp rfl (by with_reducible first | exact Zh | exact zU) ?_; clear hp; intro b w1 hp) | ((refine zh _ _ rfl ?_); refine lB hp rfl (za rfl) rfl ?_; clear hp; intro b w1 hp) | ((refine zf _ _ rfl ?_); first | refine lO hp rfl (za rfl) zat aa5 ?_ | refine lA hp rfl (za rfl) Zu aa5 ?_ | refine lR hp rfl (za rfl) Zu HX.out ?_) | ((refine zd _ _ _ rfl ?_); (first | refine sO hp rfl (za rfl) zat aa5 ?_ | refine sA hp rfl (za rfl) (za rfl) Zu aa5 ?_ | refine sG hp rfl (za rfl) (za rfl) Zu aa5 ?_); clear hp; intro w1 hp; simp only [spl, z0a, z0b] at hp)); simp only [zc, zb, z0b, z0a])); refine zaI 0 rfl ?_; go_wp2_with (first | (go_at_call 136; (with_reducible refine (zT vw 0 900000000 _ H1.out _).mono ?_); rintro e w' ⟨rfl, rfl⟩) | (go_at_call 136; (with_reducible refine (zT nm 0 vw _ H2.out _).mono ?_); rintro e w' ⟨rfl, rfl⟩) | (go_at_call 136; (with_reducible refine (zT bs 0 900000000 _ H3.out _).mono ?_); rintro e w' ⟨rfl, rfl⟩) | (go_at_call 137; (with_reducible refine (ZN es bs ea ec _ H5.out HL.out _ (HA.out.below hp.below)).mono ?_); rintro e w1 ⟨rfl, hb⟩; replace hp := hp.call hb; clear hb) | go_skip | ((first | ((refine zg _ rfl ?_); refine lZ hp rfl (by with_reducible first | exact Zh | exact zU) ?_; clear hp; intro b w1 hp) | ((refine zh _ _ rfl ?_); refine lB hp rfl (za rfl) rfl ?_; clear hp; intro b w1 hp) | ((refine zf _ _ rfl ?_); first | refine lO hp rfl (za rfl) zat aa5 ?_ | refine lA hp rfl (za rfl) Zu aa5 ?_ | refine lR hp rfl (za rfl) Zu HX.out ?_) | ((refine zd _ _ _ rfl ?_); (first | refine sO hp rfl (za rfl) zat aa5 ?_ | refine sA hp rfl (za rfl) (za rfl) Zu aa5 ?_ | refine sG hp rfl (za rfl) (za rfl) Zu aa5 ?_); clear hp; intro w1 hp; simp only [spl, z0a, z0b] at hp)); simp only [zc, zb, z0b, z0a]))
 (go_step3; refine And.intro rfl ?_; go_wp2; rw [Exit.noGoto_ret])
 (go_ret; exact ⟨rfl, hp.below⟩)
theorem zkN (vw nm bs : Int) (im : ByteArray) (ea : Option Addr) (es : List Env) (ec : Nat) (hs : Kv.Small ⟨vw, nm, bs, im, ea, es, ec⟩) (w : World) (ha : zr w ea (es.flatMap Zi)) (h1 : inM vw 0 900000000 = true) (h2 : inM nm 0 vw = true) (h3 : inM bs 0 900000000 = false) : Calls Tryz.prog 64 #[.agg #[.int .i64 vw, .int .i64 nm, .int .i64 bs, .string im, .slice ea es.length ec]] w fun e w' => e = .returned (.int .i64 1) ∧ Below w.heap.size w w' := by
 have hp := Hp.start w; have HA := z0j ha; have hsl : es.length ≤ 100000 := hs.1; have HL := z0j hsl; have hsi : im.size ≤ 1000000 := hs.2; have HIM : Hid (im.size ≤ 1000000000) := z0j (by omega); clear ha hs hsi
 have H1 := z0j h1
 have H2 := z0j h2
 have H3 := z0j h3
 clear h1 h2 h3 hsl
 go_enter Tryz.func64, Tryz.ntmps64
 go_wp2_with (first | go_skip | ((first | ((refine zg _ rfl ?_); refine lZ hp rfl (by with_reducible first | exact Zh | exact zU) ?_; clear hp; intro b w1 hp) | ((refine zh _ _ rfl ?_); refine lB hp rfl (za rfl) rfl ?_; clear hp; intro b w1 hp) | ((refine zf _ _ rfl ?_); first | refine lO hp rfl (za rfl) zat aa5 ?_ | refine lA hp rfl (za rfl) Zu aa5 ?_ | refine lR hp rfl (za rfl) Zu HX.out ?_) | ((refine zd _ _ _ rfl ?_); (first | refine sO hp rfl (za rfl) zat aa5 ?_ | refine sA hp rfl (za rfl) (za rfl) Zu aa5 ?_ | refine sG hp rfl (za rfl) (za rfl) Zu aa5 ?_); clear hp; intro w1 hp; simp only [spl, z0a, z0b] at hp)); simp only [zc, zb, z0b, z0a])); refine zaI 0 rfl ?_; go_wp2_with (first | (go_at_call 136; (with_reducible refine (zT vw 0 900000000 _ H1.out _).mono ?_); rintro e w' ⟨rfl, rfl⟩) | (go_at_call 136; (with_reducible refine (zT nm 0 vw _ H2.out _).mono ?_); rintro e w' ⟨rfl, rfl⟩) | (go_at_call 136; (with_reducible refine (zT bs 0 900000000 _ H3.out _).mono ?_); rintro e w' ⟨rfl, rfl⟩) | (go_at_call 137; (with_reducible refine (ZN es bs ea ec _ H5.out HL.out _ (HA.out.below hp.below)).mono ?_); rintro e w1 ⟨rfl, hb⟩; replace hp := hp.call hb; clear hb) | go_skip | ((first | ((refine zg _ rfl ?_); refine lZ hp rfl (by with_reducible first | exact Zh | exact zU) ?_; clear hp; intro b w1 hp) | ((refine zh _ _ rfl ?_); refine lB hp rfl (za rfl) rfl ?_; clear hp; intro b w1 hp) | ((refine zf _ _ rfl ?_); first | refine lO hp rfl (za rfl) zat aa5 ?_ | refine lA hp rfl (za rfl) Zu aa5 ?_ | refine lR hp rfl (za rfl) Zu HX.out ?_) | ((refine zd _ _ _ rfl ?_); (first | refine sO hp rfl (za rfl) zat aa5 ?_ | refine sA hp rfl (za rfl) (za rfl) Zu aa5 ?_ | refine sG hp rfl (za rfl) (za rfl) Zu aa5 ?_); clear hp; intro w1 hp; simp only [spl, z0a, z0b] at hp)); simp only [zc, zb, z0b, z0a]))
 (go_step3; refine And.intro rfl ?_; go_wp2; rw [Exit.noGoto_ret])
 (go_ret; exact ⟨rfl, hp.below⟩)
theorem zkO (vw nm bs : Int) (im : ByteArray) (ea : Option Addr) (es : List Env) (ec : Nat) (hs : Kv.Small ⟨vw, nm, bs, im, ea, es, ec⟩) (w : World) (ha : zr w ea (es.flatMap Zi)) (h1 : inM vw 0 900000000 = true) (h2 : inM nm 0 vw = true) (h3 : inM bs 0 900000000 = true) (h4 : ¬ es.length ≤ 4000) : Calls Tryz.prog 64 #[.agg #[.int .i64 vw, .int .i64 nm, .int .i64 bs, .string im, .slice ea es.length ec]] w fun e w' => e = .returned (.int .i64 1) ∧ Below w.heap.size w w' := by
 have hp := Hp.start w; have HA := z0j ha; have hsl : es.length ≤ 100000 := hs.1; have HL := z0j hsl; have hsi : im.size ≤ 1000000 := hs.2; have HIM : Hid (im.size ≤ 1000000000) := z0j (by omega); clear ha hs hsi
 have H1 := z0j h1
 have H2 := z0j h2
 have H3 := z0j h3
 have e4 : decide ((4000 : Int) < (es.length : Int)) = true := by simp; omega
 clear h1 h2 h3 h4 hsl
 go_enter Tryz.func64, Tryz.ntmps64
 go_wp2_with (first | go_skip | ((first | ((refine zg _ rfl ?_); refine lZ hp rfl (by with_reducible first | exact Zh | exact zU) ?_; clear hp; intro b w1 hp) | ((refine zh _ _ rfl ?_); refine lB hp rfl (za rfl) rfl ?_; clear hp; intro b w1 hp) | ((refine zf _ _ rfl ?_); first | refine lO hp rfl (za rfl) zat aa5 ?_ | refine lA hp rfl (za rfl) Zu aa5 ?_ | refine lR hp rfl (za rfl) Zu HX.out ?_) | ((refine zd _ _ _ rfl ?_); (first | refine sO hp rfl (za rfl) zat aa5 ?_ | refine sA hp rfl (za rfl) (za rfl) Zu aa5 ?_ | refine sG hp rfl (za rfl) (za rfl) Zu aa5 ?_); clear hp; intro w1 hp; simp only [spl, z0a, z0b] at hp)); simp only [zc, zb, z0b, z0a])); refine zaI 0 rfl ?_; go_wp2_with (first | (go_at_call 136; (with_reducible refine (zT vw 0 900000000 _ H1.out _).mono ?_); rintro e w' ⟨rfl, rfl⟩) | (go_at_call 136; (with_reducible refine (zT nm 0 vw _ H2.out _).mono ?_); rintro e w' ⟨rfl, rfl⟩) | (go_at_call 136; (with_reducible refine (zT bs 0 900000000 _ H3.out _).mono ?_); rintro e w' ⟨rfl, rfl⟩) | (go_at_call 137; (with_reducible refine (ZN es bs ea ec _ H5.out HL.out _ (HA.out.below hp.below)).mono ?_); rintro e w1 ⟨rfl, hb⟩; replace hp := hp.call hb; clear hb) | go_skip | ((first | ((refine zg _ rfl ?_); refine lZ hp rfl (by with_reducible first | exact Zh | exact zU) ?_; clear hp; intro b w1 hp) | ((refine zh _ _ rfl ?_); refine lB hp rfl (za rfl) rfl ?_; clear hp; intro b w1 hp) | ((refine zf _ _ rfl ?_); first | refine lO hp rfl (za rfl) zat aa5 ?_ | refine lA hp rfl (za rfl) Zu aa5 ?_ | refine lR hp rfl (za rfl) Zu HX.out ?_) | ((refine zd _ _ _ rfl ?_); (first | refine sO hp rfl (za rfl) zat aa5 ?_ | refine sA hp rfl (za rfl) (za rfl) Zu aa5 ?_ | refine sG hp rfl (za rfl) (za rfl) Zu aa5 ?_); clear hp; intro w1 hp; simp only [spl, z0a, z0b] at hp)); simp only [zc, zb, z0b, z0a]))
 (go_step3; refine And.intro rfl ?_; go_wp2; rw [Exit.noGoto_ret])
 (go_ret; exact ⟨rfl, hp.below⟩)
theorem zkP (vw nm bs : Int) (im : ByteArray) (ea : Option Addr) (es : List Env) (ec : Nat) (hs : Kv.Small ⟨vw, nm, bs, im, ea, es, ec⟩) (w : World) (ha : zr w ea (es.flatMap Zi)) (h1 : inM vw 0 900000000 = true) (h2 : inM nm 0 vw = true) (h3 : inM bs 0 900000000 = true) (h4 : es.length ≤ 4000) (h5 : zc5 bs 0 es = false) : Calls Tryz.prog 64 #[.agg #[.int .i64 vw, .int .i64 nm, .int .i64 bs, .string im, .slice ea es.length ec]] w fun e w' => e = .returned (.int .i64 1) ∧ Below w.heap.size w w' := by
 have hp := Hp.start w; have HA := z0j ha; have hsl : es.length ≤ 100000 := hs.1; have HL := z0j hsl; have hsi : im.size ≤ 1000000 := hs.2; have HIM : Hid (im.size ≤ 1000000000) := z0j (by omega); clear ha hs hsi
 have H1 := z0j h1
 have H2 := z0j h2
 have H3 := z0j h3
 have H5 := z0j h5
 have e4 : decide ((4000 : Int) < (es.length : Int)) = false := by simp; omega
 clear h1 h2 h3 h4 h5 hsl
 go_enter Tryz.func64, Tryz.ntmps64
 go_wp2_with (first | go_skip | ((first | ((refine zg _ rfl ?_); refine lZ hp rfl (by with_reducible first | exact Zh | exact zU) ?_; clear hp; intro b w1 hp) | ((refine zh _ _ rfl ?_); refine lB hp rfl (za rfl) rfl ?_; clear hp; intro b w1 hp) | ((refine zf _ _ rfl ?_); first | refine lO hp rfl (za rfl) zat aa5 ?_ | refine lA hp rfl (za rfl) Zu aa5 ?_ | refine lR hp rfl (za rfl) Zu HX.out ?_) | ((refine zd _ _ _ rfl ?_); (first | refine sO hp rfl (za rfl) zat aa5 ?_ | refine sA hp rfl (za rfl) (za rfl) Zu aa5 ?_ | refine sG hp rfl (za rfl) (za rfl) Zu aa5 ?_); clear hp; intro w1 hp; simp only [spl, z0a, z0b] at hp)); simp only [zc, zb, z0b, z0a])); refine zaI 0 rfl ?_; go_wp2_with (first | (go_at_call 136; (with_reducible refine (zT vw 0 900000000 _ H1.out _).mono ?_); rintro e w' ⟨rfl, rfl⟩) | (go_at_call 136; (with_reducible refine (zT nm 0 vw _ H2.out _).mono ?_); rintro e w' ⟨rfl, rfl⟩) | (go_at_call 136; (with_reducible refine (zT bs 0 900000000 _ H3.out _).mono ?_); rintro e w' ⟨rfl, rfl⟩) | (go_at_call 137; (with_reducible refine (ZN es bs ea ec _ H5.out HL.out _ (HA.out.below hp.below)).mono ?_); rintro e w1 ⟨rfl, hb⟩; replace hp := hp.call hb; clear hb) | go_skip | ((first | ((refine zg _ rfl ?_); refine lZ hp rfl (by with_reducible first | exact Zh | exact zU) ?_; clear hp; intro b w1 hp) | ((refine zh _ _ rfl ?_); refine lB hp rfl (za rfl) rfl ?_; clear hp; intro b w1 hp) | ((refine zf _ _ rfl ?_); first | refine lO hp rfl (za rfl) zat aa5 ?_ | refine lA hp rfl (za rfl) Zu aa5 ?_ | refine lR hp rfl (za rfl) Zu HX.out ?_) | ((refine zd _ _ _ rfl ?_); (first | refine sO hp rfl (za rfl) zat aa5 ?_ | refine sA hp rfl (za rfl) (za rfl) Zu aa5 ?_ | refine sG hp rfl (za rfl) (za rfl) Zu aa5 ?_); clear hp; intro w1 hp; simp only [spl, z0a, z0b] at hp)); simp only [zc, zb, z0b, z0a]))
 (go_step3; refine And.intro rfl ?_; go_wp2; rw [Exit.noGoto_ret])
 (go_ret; exact ⟨rfl, hp.below⟩)
theorem zkQ (vw nm bs : Int) (im : ByteArray) (ea : Option Addr) (es : List Env) (ec : Nat) (hs : Kv.Small ⟨vw, nm, bs, im, ea, es, ec⟩) (w : World) (ha : zr w ea (es.flatMap Zi)) (h1 : inM vw 0 900000000 = true) (h2 : inM nm 0 vw = true) (h3 : inM bs 0 900000000 = true) (h4 : es.length ≤ 4000) (h5 : zc5 bs 0 es = true) :
  Calls Tryz.prog 64 #[.agg #[.int .i64 vw, .int .i64 nm, .int .i64 bs, .string im, .slice ea es.length ec]] w fun e w' => e = .returned (.int .i64 (if (zbj nm 0 es && (Zz (zbG im)).isSome) = true then 0 else 1)) ∧ Below w.heap.size w w' := by
 have hp := Hp.start w; have HA := z0j ha; have hsl : es.length ≤ 100000 := hs.1; have HL := z0j hsl; have hsi : im.size ≤ 1000000 := hs.2; have HIM : Hid (im.size ≤ 1000000000) := z0j (by omega); clear ha hs hsi
 have H1 := z0j h1
 have H2 := z0j h2
 have H3 := z0j h3
 have H5 := z0j h5
 have e4 : decide ((4000 : Int) < (es.length : Int)) = false := by simp; omega
 clear h1 h2 h3 h4 h5 hsl
 go_enter Tryz.func64, Tryz.ntmps64
 go_wp2_with (first | go_skip | ((first | ((refine zg _ rfl ?_); refine lZ hp rfl (by with_reducible first | exact Zh | exact zU) ?_; clear hp; intro b w1 hp) | ((refine zh _ _ rfl ?_); refine lB hp rfl (za rfl) rfl ?_; clear hp; intro b w1 hp) | ((refine zf _ _ rfl ?_); first | refine lO hp rfl (za rfl) zat aa5 ?_ | refine lA hp rfl (za rfl) Zu aa5 ?_ | refine lR hp rfl (za rfl) Zu HX.out ?_) | ((refine zd _ _ _ rfl ?_); (first | refine sO hp rfl (za rfl) zat aa5 ?_ | refine sA hp rfl (za rfl) (za rfl) Zu aa5 ?_ | refine sG hp rfl (za rfl) (za rfl) Zu aa5 ?_); clear hp; intro w1 hp; simp only [spl, z0a, z0b] at hp)); simp only [zc, zb, z0b, z0a])); refine zaI 0 rfl ?_; go_wp2_with (first | (go_at_call 136; (with_reducible refine (zT vw 0 900000000 _ H1.out _).mono ?_); rintro e w' ⟨rfl, rfl⟩) | (go_at_call 136; (with_reducible refine (zT nm 0 vw _ H2.out _).mono ?_); rintro e w' ⟨rfl, rfl⟩) | (go_at_call 136; (with_reducible refine (zT bs 0 900000000 _ H3.out _).mono ?_); rintro e w' ⟨rfl, rfl⟩) | (go_at_call 137; (with_reducible refine (ZN es bs ea ec _ H5.out HL.out _ (HA.out.below hp.below)).mono ?_); rintro e w1 ⟨rfl, hb⟩; replace hp := hp.call hb; clear hb) | go_skip | ((first | ((refine zg _ rfl ?_); refine lZ hp rfl (by with_reducible first | exact Zh | exact zU) ?_; clear hp; intro b w1 hp) | ((refine zh _ _ rfl ?_); refine lB hp rfl (za rfl) rfl ?_; clear hp; intro b w1 hp) | ((refine zf _ _ rfl ?_); first | refine lO hp rfl (za rfl) zat aa5 ?_ | refine lA hp rfl (za rfl) Zu aa5 ?_ | refine lR hp rfl (za rfl) Zu HX.out ?_) | ((refine zd _ _ _ rfl ?_); (first | refine sO hp rfl (za rfl) zat aa5 ?_ | refine sA hp rfl (za rfl) (za rfl) Zu aa5 ?_ | refine sG hp rfl (za rfl) (za rfl) Zu aa5 ?_); clear hp; intro w1 hp; simp only [spl, z0a, z0b] at hp)); simp only [zc, zb, z0b, z0a]))
 obtain ⟨bk, hbk⟩ := hp.id0
 subst hbk
 have hsl := HL.out
 go_loopg [3, 43] es.length (fun k v i wr => ∃ (q : Nat) (vq : Int), k + q = es.length ∧ i = .int .i64 q ∧ v = .int .i64 vq ∧ Hid (zbj nm 0 es = zbj nm vq (es.drop q)) ∧ Hp w.heap.size w wr [⟨bk, [.int .i64 vw, .int .i64 nm, .int .i64 bs, .string im, .slice ea es.length ec], 24, 5⟩])
 case atStart => exact ⟨0, 0, by omega, rfl, rfl, z0j rfl, hp⟩
 case round =>
  clear hp
  obtain ⟨q, vq, hkq, rfl, rfl, HF, hp⟩ := hrel
  by_cases hlt : q < es.length
  ·obtain ⟨bq, off, rfl, hx⟩ := HA.out.elems 11 ZM (by omega) (by omega)
   have hj := List.getElem?_eq_getElem hlt
   replace hx := hx q _ hj
   have hd := List.drop_eq_getElem_cons hlt
   clear hj
   generalize es[q] = en at hx hd
   obtain ⟨nu, vi, cl, sq, ⟨kk, hh, ii, nn, cc, vv, tt⟩⟩ := en
   simp only [Zi, opL, z0f, z0e] at hx
   have HX := z0j hx
   have HF2 : Hid (zbj nm 0 es = (zdR ⟨nu, vi, cl, sq, ⟨kk, hh, ii, nn, cc, vv, tt⟩⟩ && (inM vi vq nm && zbj nm vi (es.drop (q + 1))))) := z0j (by rw [HF.out, hd]; rfl)
   have f1 : (0 : Int) ≤ (q : Int) := by omega
   have f2 : (q : Int) < (es.length : Int) := by omega
   clear hx hd HF
   cases hm : zdR ⟨nu, vi, cl, sq, ⟨kk, hh, ii, nn, cc, vv, tt⟩⟩ with
   | false =>
    have HM := z0j hm
    clear hm
    go_wp2_with (first | (go_at_call 119; (with_reducible refine (zhd _ _ _ _ _ _ _ _ _ _ _ _ HM.out _).mono ?_); rintro e w1 ⟨rfl, hb⟩; replace hp := hp.call hb; clear hb) | go_skip | ((first | ((refine zg _ rfl ?_); refine lZ hp rfl (by with_reducible first | exact Zh | exact zU) ?_; clear hp; intro b w1 hp) | ((refine zh _ _ rfl ?_); refine lB hp rfl (za rfl) rfl ?_; clear hp; intro b w1 hp) | ((refine zf _ _ rfl ?_); first | refine lO hp rfl (za rfl) zat aa5 ?_ | refine lA hp rfl (za rfl) Zu aa5 ?_ | refine lR hp rfl (za rfl) Zu HX.out ?_) | ((refine zd _ _ _ rfl ?_); (first | refine sO hp rfl (za rfl) zat aa5 ?_ | refine sA hp rfl (za rfl) (za rfl) Zu aa5 ?_ | refine sG hp rfl (za rfl) (za rfl) Zu aa5 ?_); clear hp; intro w1 hp; simp only [spl, z0a, z0b] at hp)); simp only [zc, zb, z0b, z0a]))
    (go_step3; refine And.intro rfl ?_; go_wp2; rw [Exit.noGoto_ret])
    go_ret
    refine ⟨?_, hp.below⟩
    rw [HF2.out, HM.out]; rfl
   | true =>
    have HM := z0j hm
    clear hm
    cases hv : inM vi vq nm with
    | false =>
     have HV := z0j hv
     clear hv
     go_wp2_with (first | (go_at_call 119; (with_reducible refine (zhd _ _ _ _ _ _ _ _ _ _ _ _ HM.out _).mono ?_); rintro e w1 ⟨rfl, hb⟩; replace hp := hp.call hb; clear hb) | (go_at_call 136; (with_reducible refine (zT vi vq nm _ HV.out _).mono ?_); rintro e w' ⟨rfl, rfl⟩) | go_skip | ((first | ((refine zg _ rfl ?_); refine lZ hp rfl (by with_reducible first | exact Zh | exact zU) ?_; clear hp; intro b w1 hp) | ((refine zh _ _ rfl ?_); refine lB hp rfl (za rfl) rfl ?_; clear hp; intro b w1 hp) | ((refine zf _ _ rfl ?_); first | refine lO hp rfl (za rfl) zat aa5 ?_ | refine lA hp rfl (za rfl) Zu aa5 ?_ | refine lR hp rfl (za rfl) Zu HX.out ?_) | ((refine zd _ _ _ rfl ?_); (first | refine sO hp rfl (za rfl) zat aa5 ?_ | refine sA hp rfl (za rfl) (za rfl) Zu aa5 ?_ | refine sG hp rfl (za rfl) (za rfl) Zu aa5 ?_); clear hp; intro w1 hp; simp only [spl, z0a, z0b] at hp)); simp only [zc, zb, z0b, z0a]))
     (go_step3; refine And.intro rfl ?_; go_wp2; rw [Exit.noGoto_ret])
     go_ret
     refine ⟨?_, hp.below⟩
     rw [HF2.out, HM.out, HV.out]; rfl
    | true =>
     have HV := z0j hv
     clear hv
     go_wp2_with (first | (go_at_call 119; (with_reducible refine (zhd _ _ _ _ _ _ _ _ _ _ _ _ HM.out _).mono ?_); rintro e w1 ⟨rfl, hb⟩; replace hp := hp.call hb; clear hb) | (go_at_call 136; (with_reducible refine (zT vi vq nm _ HV.out _).mono ?_); rintro e w' ⟨rfl, rfl⟩) | go_skip | ((first | ((refine zg _ rfl ?_); refine lZ hp rfl (by with_reducible first | exact Zh | exact zU) ?_; clear hp; intro b w1 hp) | ((refine zh _ _ rfl ?_); refine lB hp rfl (za rfl) rfl ?_; clear hp; intro b w1 hp) | ((refine zf _ _ rfl ?_); first | refine lO hp rfl (za rfl) zat aa5 ?_ | refine lA hp rfl (za rfl) Zu aa5 ?_ | refine lR hp rfl (za rfl) Zu HX.out ?_) | ((refine zd _ _ _ rfl ?_); (first | refine sO hp rfl (za rfl) zat aa5 ?_ | refine sA hp rfl (za rfl) (za rfl) Zu aa5 ?_ | refine sG hp rfl (za rfl) (za rfl) Zu aa5 ?_); clear hp; intro w1 hp; simp only [spl, z0a, z0b] at hp)); simp only [zc, zb, z0b, z0a]))
     go_roundg (gk - 1)
     case measure => omega
     case rel => exact ⟨q + 1, vi, by omega, by go_num, rfl, z0j (by rw [HF2.out, HM.out, HV.out]; simp), hp.tail⟩
  ·obtain rfl : q = es.length := by omega
   have e2 : decide ((es.length : Int) < (es.length : Int)) = false := by simp
   have HE : Hid (zbj nm 0 es = true) := z0j (by rw [HF.out, List.drop_length]; rfl)
   clear hkq hlt HF
   cases hst : Zz (zbG im) with
   | none =>
    have HS := z0j hst
    clear hst
    go_wp2_with (first | ((refine Zl _ _ _ rfl ?_); refine ZE hp 9 57 5 _ rfl wy Tryz.underlying9 Tryz.underlying57 Tryz.underlying5 _ (za rfl) ?_; clear hp; intro ad cb w1 hcb had hp; have HCB := z0j hcb; have HAD := z0j had; clear hcb had; simp only [zc, zb, z0b, z0a]) | (go_at_call 37; (with_reducible refine (zmu im HS.out ad cb HCB.out HIM.out _ HAD.out).mono ?_); rintro e w1 ⟨rfl, hb⟩; replace hp := hp.call hb; clear hb) | go_skip | ((first | ((refine zg _ rfl ?_); refine lZ hp rfl (by with_reducible first | exact Zh | exact zU) ?_; clear hp; intro b w1 hp) | ((refine zh _ _ rfl ?_); refine lB hp rfl (za rfl) rfl ?_; clear hp; intro b w1 hp) | ((refine zf _ _ rfl ?_); first | refine lO hp rfl (za rfl) zat aa5 ?_ | refine lA hp rfl (za rfl) Zu aa5 ?_ | refine lR hp rfl (za rfl) Zu HX.out ?_) | ((refine zd _ _ _ rfl ?_); (first | refine sO hp rfl (za rfl) zat aa5 ?_ | refine sA hp rfl (za rfl) (za rfl) Zu aa5 ?_ | refine sG hp rfl (za rfl) (za rfl) Zu aa5 ?_); clear hp; intro w1 hp; simp only [spl, z0a, z0b] at hp)); simp only [zc, zb, z0b, z0a]))
    go_step3
    go_wp2
    try simp only [Exit.inBlock, Exit.then]
    refine zhI ?_
    go_ret
    refine ⟨?_, hp.below⟩
    rw [HE.out, HS.out]; rfl
   | some x =>
    have HS := z0j hst
    clear hst
    go_wp2_with (first | ((refine Zl _ _ _ rfl ?_); refine ZE hp 9 57 5 _ rfl wy Tryz.underlying9 Tryz.underlying57 Tryz.underlying5 _ (za rfl) ?_; clear hp; intro ad cb w1 hcb had hp; have HCB := z0j hcb; have HAD := z0j had; clear hcb had; simp only [zc, zb, z0b, z0a]) | (go_at_call 37; (with_reducible refine (zkZ im _ HS.out ad cb HCB.out HIM.out _ HAD.out).mono ?_); rintro e w1 ⟨odX, oaX, osX, ocX, nxX, t0X, t1X, t2X, t3X, faX, fsX, fcX, raX, rsX, rcX, RX, rfl, _, _, hpn⟩; replace hp := hp.join hpn; clear hpn; simp only [z0f, z0e] at hp) | go_skip | ((first | ((refine zg _ rfl ?_); refine lZ hp rfl (by with_reducible first | exact Zh | exact zU) ?_; clear hp; intro b w1 hp) | ((refine zh _ _ rfl ?_); refine lB hp rfl (za rfl) rfl ?_; clear hp; intro b w1 hp) | ((refine zf _ _ rfl ?_); first | refine lO hp rfl (za rfl) zat aa5 ?_ | refine lA hp rfl (za rfl) Zu aa5 ?_ | refine lR hp rfl (za rfl) Zu HX.out ?_) | ((refine zd _ _ _ rfl ?_); (first | refine sO hp rfl (za rfl) zat aa5 ?_ | refine sA hp rfl (za rfl) (za rfl) Zu aa5 ?_ | refine sG hp rfl (za rfl) (za rfl) Zu aa5 ?_); clear hp; intro w1 hp; simp only [spl, z0a, z0b] at hp)); simp only [zc, zb, z0b, z0a]))
    try simp only [Exit.inBlock, Exit.then]
    refine zhI ?_
    go_ret
    refine ⟨?_, hp.below⟩
    rw [HE.out, HS.out]; rfl
theorem zch (vw nm bs : Int) (im : ByteArray) (ea : Option Addr) (es : List Env) (ec : Nat) (b : Bool) (hb : okC ⟨vw, nm, bs, im, ea, es, ec⟩ = b) (hs : Kv.Small ⟨vw, nm, bs, im, ea, es, ec⟩) (w : World) (ha : zr w ea (es.flatMap Zi)) :
  Calls Tryz.prog 64 #[.agg #[.int .i64 vw, .int .i64 nm, .int .i64 bs, .string im, .slice ea es.length ec]] w fun e w' => e = .returned (.int .i64 (if b = true then 0 else 1)) ∧ Below w.heap.size w w' := by
 subst hb
 unfold okC
 simp only
 cases h1 : inM vw 0 900000000 with
 | false => exact zkL vw nm bs im ea es ec hs w ha h1
 | true =>
  cases h2 : inM nm 0 vw with
  | false => exact zkM vw nm bs im ea es ec hs w ha h1 h2
  | true =>
   cases h3 : inM bs 0 900000000 with
   | false => exact zkN vw nm bs im ea es ec hs w ha h1 h2 h3
   | true =>
    by_cases h4 : es.length ≤ 4000
    ·cases h5 : zc5 bs 0 es with
     | false =>
      have := zkP vw nm bs im ea es ec hs w ha h1 h2 h3 h4 h5
      simpa [h4] using this
     | true =>
      have := zkQ vw nm bs im ea es ec hs w ha h1 h2 h3 h4 h5
      simpa [h4] using this
    ·have := zkO vw nm bs im ea es ec hs w ha h1 h2 h3 h4
     simpa [h4] using this
open Go.RowKit
theorem ze1 (d : Nat) (n c : Nat) (w : World) : (Op.equalIn (d + 1) 22 (.slice none n c) (.slice none 0 0)).run Tryz.prog w = .ok true w := by
 rw [Op.equalIn]; simp [Sem.run_bind, run_underlying Tryz.underlying22]
theorem zeC (d : Nat) (a : Addr) (n c : Nat) (w : World) : (Op.equalIn (d + 1) 22 (.slice (some a) n c) (.slice none 0 0)).run Tryz.prog w = .ok false w := by
 rw [Op.equalIn]; simp [Sem.run_bind, run_underlying Tryz.underlying22]
theorem zll (n c : Nat) (w : World) : (binOp .eql 22 (.slice none n c) (.slice none 0 0)).run Tryz.prog w = .ok (.bool true) w := by
 have h : (Op.equalIn 10000 22 (.slice none n c) (.slice none 0 0)).run Tryz.prog w = .ok true w := ze1 9999 n c w
 simp only [binOp]
 simp [Op.equal, Op.maxDepth, h]
theorem zkg (a : Addr) (n c : Nat) (w : World) : (binOp .eql 22 (.slice (some a) n c) (.slice none 0 0)).run Tryz.prog w = .ok (.bool false) w := by
 have h : (Op.equalIn 10000 22 (.slice (some a) n c) (.slice none 0 0)).run Tryz.prog w = .ok false w := zeC 9999 a n c w
 simp only [binOp]
 simp [Op.equal, Op.maxDepth, h]
def zea (w : World) (n : Nat) (xs : List Value) (e : Ending) (w' : World) : Prop := ∃ v R, e = .returned v ∧ zJ 31 11 v n xs R ∧ Hp w.heap.size w w' R
theorem zmo (a : Option Addr) (n c : Nat) (hn : n ≤ 100000) (xs : List Value) (hl : xs.length = n * 11) (h1 : xs.all (·.oneCell') = true) (w : World) (ha : zr w a xs) :
  Calls Tryz.prog 67 #[.slice a n c] w (zea w n xs) := by
 obtain ⟨i0, hi0, hz0, hz1, hz2⟩ := info_parts zfh
 have hp := Hp.start w
 cases a with
 | none =>
  have hn0 : n = 0 := by
   rcases Nat.eq_zero_or_pos n with h | h
   ·exact h
   ·obtain ⟨b, off, he, _⟩ := ha.addr (by omega)
    cases he
  subst hn0
  have hx : xs = [] := List.eq_nil_of_length_eq_zero (by simpa using hl)
  subst hx
  clear ha hl h1
  have hq := zll
  go_enter Tryz.func67, Tryz.ntmps67
  go_wp2
  go_ret
  exact ⟨_, [], rfl, zJ.nil _ _, hp⟩
 | some a =>
  have HA := z0j ha
  have HL := z0j hl
  have H1 := z0j h1
  have sm1 : 0 + n ≤ maxLen := by unfold maxLen; omega
  have sm2 : (0 + n) * 88 ≤ 140737488355328 := by omega
  clear ha hl h1
  have hq := zkg
  go_enter Tryz.func67, Tryz.ntmps67
  go_wp2_with (first | ((refine zi _ _ _ rfl ?_); refine zav hp _ _ _ rfl wy [] 31 (by intro w; go_simp; try rfl) ?_; clear hp; intro b w1 hp; simp only [zc, zb, z0b, z0a]) | ((refine Zb _ _ 22 rfl ?_); refine ZJ (K := []) (R := [⟨b, [], 31, 0 * 11⟩]) (M := []) hp _ _ _ rfl wy i0 _ 88 Tryz.underlying22 hi0 hz0 hz1 hz2 rfl (by decide) (za rfl) ⟨rfl, .inr ⟨b, 0, rfl, Nat.le_refl _, Nat.zero_le _, rfl⟩⟩ (some a) n c (za rfl) xs HL.out (HA.out.below hp.below) H1.out sm1 sm2 ?_; clear hp; intro v' R' w1 hR' hp; have HR' := z0j hR'; clear hR'; simp only [zc, zb, z0b, z0a]) | go_skip)
  go_ret
  exact ⟨v', R', rfl, by simpa using HR'.out, by simpa using hp⟩
end Go.Proofs.YtaafajaadfgaoaaGreat
