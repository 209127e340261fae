import Derived.Test.YtjcbpfbifbfkcaaGreatTx21
import Derived.Test.YtjcbpfbifbfkcaaGreatTx19
import Derived.WalkMore
import Derived.ScopeJumps
set_option linter.unusedSimpArgs false
set_option linter.unusedVariables false
set_option maxRecDepth 100000
set_option maxHeartbeats 60000000
namespace Go.Proofs.YtjcbpfbifbfkcaaGreat
open Go.RowKit
theorem z7 {ty : TypeId} {k : Nat} (h : Z6 Tryz.prog ty k = true := by with_reducible first | exact zr | exact zk | exact ZH) : Z6 Tryz.prog ty k = true := h
theorem Z5 {ty : TypeId} (h : zx Tryz.prog ty = true := by with_reducible first | exact zn | exact Zy | exact zB | exact zaj | exact zX) : zx Tryz.prog ty = true := h
theorem Z0 {P : Program} {a : Act} {w : World} {Q : Exit → Act → World → Prop} {c rest : Code} (l : Nat) (hf : findLabel c l = some rest)
  (h : c.wp P (Exit.jump l (fun a w => rest.wp P (Exit.noGoto Q) a w) Q) a w) : (Code.scope c).wp P Q a w :=
 wp_scope_jumps l (fun a w => rest.wp P (Exit.noGoto Q) a w) (fun _ _ => 0) hf h fun a w hJ => Code.wp_mono (fun e a' w' hq => by cases e <;> first | exact hq.elim | exact hq) hJ
theorem zf1 {Q : Exit → Act → World → Prop} {J : Act → World → Prop} {l : Nat} {a : Act} {w : World} (h : Q .ret a w) : Exit.jump l J Q .ret a w := h
def zdo (nm : Int) : Int → List Env → Bool
 | _, [] => true
 | v, e :: r => zew e && (inM e.vi v nm && zdo nm e.vi r)
noncomputable def okC (x : Kv) : Bool := inM x.vw 0 900000000 && (inM x.nm 0 x.vw && (inM x.bs 0 900000000 && (decide (x.es.length ≤ 4000) && (zaB x.bs 0 x.es && (zdo x.nm 0 x.es && (zab (zbV x.im)).isSome)))))
def Kv.Small (x : Kv) : Prop := x.es.length ≤ 100000 ∧ x.im.size ≤ 1000000
theorem zbm {x y : Kv} (h : x.Sm y) : okC x = okC y := by unfold okC; rw [h.vw, h.nm, h.bs, h.im, h.es]
def zmI (w : World) (x : Sv) (e : Ending) (w' : World) : Prop := ∃ od oa os oc nx t0 t1 t2 t3 fa fs fc ra rs rc R, e = .returned (.tuple #[.agg #[.int .i64 od, .slice oa (List.length os) oc, .int .i64 nx, .int .i64 t0, .int .i64 t1, .int .i64 t2, .int .i64 t3, .slice fa (List.length fs) fc, .slice ra (List.length rs) rc], .int .i64 0]) ∧ Sv.Sm ⟨⟨od, oa, os, oc, nx, t0, t1, t2, t3, fa, fs, fc⟩, ra, rs, rc⟩ x ∧ SvO ⟨⟨od, oa, os, oc, nx, t0, t1, t2, t3, fa, fs, fc⟩, ra, rs, rc⟩ R ∧ Hp w.heap.size w w' R
theorem ziv (s : ByteArray) (x : Sv) (hr : zab (zbV s) = some x) (ad : Option Addr) (c : Nat) (hc : s.size ≤ c) (hs : s.size ≤ 1000000000) (w : World) (ha : zaH w ad (zbV s)) : Calls Tryz.prog 70 #[.slice ad s.size c] w (zmI w x) := by
 have h := zjN (zbV s) ad c (by rw [ZQ]; exact hc) (by rw [ZQ]; exact hs) w ha
 rw [ZQ] at h
 refine h.mono fun e w' h => ?_
 rw [hr] at h
 obtain ⟨y, R, h1, h2, h3, h4⟩ := h
 obtain ⟨⟨od, oa, os, oc, nx, t0, t1, t2, t3, fa, fs, fc⟩, ra, rs, rc⟩ := y
 exact ⟨od, oa, os, oc, nx, t0, t1, t2, t3, fa, fs, fc, ra, rs, rc, R, h1, h2, h3, h4⟩
theorem zk0 (s : ByteArray) (hr : zab (zbV s) = none) (ad : Option Addr) (c : Nat) (hc : s.size ≤ c) (hs : s.size ≤ 1000000000) (w : World) (ha : zaH w ad (zbV s)) : Calls Tryz.prog 70 #[.slice ad s.size c] w fun e w' => e = .returned (.tuple #[.agg #[.int .i64 0, .slice none 0 0, .int .i64 0, .int .i64 0, .int .i64 0, .int .i64 0, .int .i64 0, .slice none 0 0, .slice none 0 0], .int .i64 60]) ∧ Below w.heap.size w w' := by
 have h := zjN (zbV s) ad c (by rw [ZQ]; exact hc) (by rw [ZQ]; exact hs) w ha
 rw [ZQ] at h
 refine h.mono fun e w' h => ?_
 rw [hr] at h
 exact h
theorem zE (n lo hi : Int) (b : Bool) (hb : inM n lo hi = b) (w : World) : Calls Tryz.prog 67 #[.int .i64 n, .int .i64 lo, .int .i64 hi] w fun e w' => e = .returned (.bool b) ∧ w = w' := hb ▸ ziu n lo hi w
theorem z8 (l : List Env) (fr : Int) (a : Option Addr) (c : Nat) (b : Bool) (hb : zaB fr 0 l = b) (hl : l.length ≤ 100000) (w : World) (ha : zm w a (l.flatMap zQ)) :
  Calls Tryz.prog 68 #[.slice a l.length c, .int .i64 fr] w fun e w' => e = .returned (.bool b) ∧ Below w.heap.size w w' := hb ▸ zhH l fr a c hl w ha
theorem zjn (vw nm bs : Int) (im : ByteArray) (ea : Option Addr) (es : List Env) (ec : Nat) (hs : Kv.Small ⟨vw, nm, bs, im, ea, es, ec⟩) (w : World) (ha : zm w ea (es.flatMap zQ)) (h1 : inM vw 0 900000000 = false) : Calls Tryz.prog 21 #[.agg #[.int .i64 vw, .int .i64 nm, .int .i64 bs, .string im, .slice ea es.length ec]] w fun e w' => e = .returned (.int .i64 1) ∧ Below w.heap.size w w' := by
 have hp := Hp.start w; have HA := z0j ha; have hsl : es.length ≤ 100000 := hs.1; have HL := z0j hsl; have hsi : im.size ≤ 1000000 := hs.2; have HIM : Hid (im.size ≤ 1000000000) := z0j (by omega); clear ha hs hsi
 have H1 := z0j h1
 clear h1 hsl
 go_enter Tryz.func21, Tryz.ntmps21
 go_wp2_with (first | go_skip | ((first | ((refine zf _ rfl ?_); refine lZ hp rfl (by with_reducible first | exact zZ | exact Zi) ?_; clear hp; intro b w1 hp) | ((refine zg _ _ rfl ?_); refine lB hp rfl (za rfl) rfl ?_; clear hp; intro b w1 hp) | ((refine ze _ _ rfl ?_); first | refine lO hp rfl (za rfl) Z5 aa5 ?_ | refine lA hp rfl (za rfl) z7 aa5 ?_ | refine lR hp rfl (za rfl) z7 HX.out ?_) | ((refine zd _ _ _ rfl ?_); (first | refine sO hp rfl (za rfl) Z5 aa5 ?_ | refine sA hp rfl (za rfl) (za rfl) z7 aa5 ?_ | refine sG hp rfl (za rfl) (za rfl) z7 aa5 ?_); clear hp; intro w1 hp; simp only [spl, z0a, z0b] at hp)); simp only [zc, zb, z0b, z0a])); refine Z0 0 rfl ?_; go_wp2_with (first | (go_at_call 67; (with_reducible refine (zE vw 0 900000000 _ H1.out _).mono ?_); rintro e w' ⟨rfl, rfl⟩) | (go_at_call 67; (with_reducible refine (zE nm 0 vw _ H2.out _).mono ?_); rintro e w' ⟨rfl, rfl⟩) | (go_at_call 67; (with_reducible refine (zE bs 0 900000000 _ H3.out _).mono ?_); rintro e w' ⟨rfl, rfl⟩) | (go_at_call 68; (with_reducible refine (z8 es bs ea ec _ H5.out HL.out _ (HA.out.below hp.below)).mono ?_); rintro e w1 ⟨rfl, hb⟩; replace hp := hp.call hb; clear hb) | go_skip | ((first | ((refine zf _ rfl ?_); refine lZ hp rfl (by with_reducible first | exact zZ | exact Zi) ?_; clear hp; intro b w1 hp) | ((refine zg _ _ rfl ?_); refine lB hp rfl (za rfl) rfl ?_; clear hp; intro b w1 hp) | ((refine ze _ _ rfl ?_); first | refine lO hp rfl (za rfl) Z5 aa5 ?_ | refine lA hp rfl (za rfl) z7 aa5 ?_ | refine lR hp rfl (za rfl) z7 HX.out ?_) | ((refine zd _ _ _ rfl ?_); (first | refine sO hp rfl (za rfl) Z5 aa5 ?_ | refine sA hp rfl (za rfl) (za rfl) z7 aa5 ?_ | refine sG hp rfl (za rfl) (za rfl) z7 aa5 ?_); clear hp; intro w1 hp; simp only [spl, z0a, z0b] at hp)); simp only [zc, zb, z0b, z0a]))
 (go_step3; refine And.intro rfl ?_; go_wp2; rw [Exit.noGoto_ret])
 (go_ret; exact ⟨rfl, hp.below⟩)
theorem zju (vw nm bs : Int) (im : ByteArray) (ea : Option Addr) (es : List Env) (ec : Nat) (hs : Kv.Small ⟨vw, nm, bs, im, ea, es, ec⟩) (w : World) (ha : zm w ea (es.flatMap zQ)) (h1 : inM vw 0 900000000 = true) (h2 : inM nm 0 vw = false) : Calls Tryz.prog 21 #[.agg #[.int .i64 vw, .int .i64 nm, .int .i64 bs, .string im, .slice ea es.length ec]] w fun e w' => e = .returned (.int .i64 1) ∧ Below w.heap.size w w' := by
 have hp := Hp.start w; have HA := z0j ha; have hsl : es.length ≤ 100000 := hs.1; have HL := z0j hsl; have hsi : im.size ≤ 1000000 := hs.2; have HIM : Hid (im.size ≤ 1000000000) := z0j (by omega); clear ha hs hsi
 have H1 := z0j h1
 have H2 := z0j h2
 clear h1 h2 hsl
 go_enter Tryz.func21, Tryz.ntmps21
 go_wp2_with (first | go_skip | ((first | ((refine zf _ rfl ?_); refine lZ hp rfl (by with_reducible first | exact zZ | exact Zi) ?_; clear hp; intro b w1 hp) | ((refine zg _ _ rfl ?_); refine lB hp rfl (za rfl) rfl ?_; clear hp; intro b w1 hp) | ((refine ze _ _ rfl ?_); first | refine lO hp rfl (za rfl) Z5 aa5 ?_ | refine lA hp rfl (za rfl) z7 aa5 ?_ | refine lR hp rfl (za rfl) z7 HX.out ?_) | ((refine zd _ _ _ rfl ?_); (first | refine sO hp rfl (za rfl) Z5 aa5 ?_ | refine sA hp rfl (za rfl) (za rfl) z7 aa5 ?_ | refine sG hp rfl (za rfl) (za rfl) z7 aa5 ?_); clear hp; intro w1 hp; simp only [spl, z0a, z0b] at hp)); simp only [zc, zb, z0b, z0a])); refine Z0 0 rfl ?_; go_wp2_with (first | (go_at_call 67; (with_reducible refine (zE vw 0 900000000 _ H1.out _).mono ?_); rintro e w' ⟨rfl, rfl⟩) | (go_at_call 67; (with_reducible refine (zE nm 0 vw _ H2.out _).mono ?_); rintro e w' ⟨rfl, rfl⟩) | (go_at_call 67; (with_reducible refine (zE bs 0 900000000 _ H3.out _).mono ?_); rintro e w' ⟨rfl, rfl⟩) | (go_at_call 68; (with_reducible refine (z8 es bs ea ec _ H5.out HL.out _ (HA.out.below hp.below)).mono ?_); rintro e w1 ⟨rfl, hb⟩; replace hp := hp.call hb; clear hb) | go_skip | ((first | ((refine zf _ rfl ?_); refine lZ hp rfl (by with_reducible first | exact zZ | exact Zi) ?_; clear hp; intro b w1 hp) | ((refine zg _ _ rfl ?_); refine lB hp rfl (za rfl) rfl ?_; clear hp; intro b w1 hp) | ((refine ze _ _ rfl ?_); first | refine lO hp rfl (za rfl) Z5 aa5 ?_ | refine lA hp rfl (za rfl) z7 aa5 ?_ | refine lR hp rfl (za rfl) z7 HX.out ?_) | ((refine zd _ _ _ rfl ?_); (first | refine sO hp rfl (za rfl) Z5 aa5 ?_ | refine sA hp rfl (za rfl) (za rfl) z7 aa5 ?_ | refine sG hp rfl (za rfl) (za rfl) z7 aa5 ?_); clear hp; intro w1 hp; simp only [spl, z0a, z0b] at hp)); simp only [zc, zb, z0b, z0a]))
 (go_step3; refine And.intro rfl ?_; go_wp2; rw [Exit.noGoto_ret])
 (go_ret; exact ⟨rfl, hp.below⟩)
theorem zi9 (vw nm bs : Int) (im : ByteArray) (ea : Option Addr) (es : List Env) (ec : Nat) (hs : Kv.Small ⟨vw, nm, bs, im, ea, es, ec⟩) (w : World) (ha : zm w ea (es.flatMap zQ)) (h1 : inM vw 0 900000000 = true) (h2 : inM nm 0 vw = true) (h3 : inM bs 0 900000000 = false) : Calls Tryz.prog 21 #[.agg #[.int .i64 vw, .int .i64 nm, .int .i64 bs, .string im, .slice ea es.length ec]] w fun e w' => e = .returned (.int .i64 1) ∧ Below w.heap.size w w' := by
 have hp := Hp.start w; have HA := z0j ha; have hsl : es.length ≤ 100000 := hs.1; have HL := z0j hsl; have hsi : im.size ≤ 1000000 := hs.2; have HIM : Hid (im.size ≤ 1000000000) := z0j (by omega); clear ha hs hsi
 have H1 := z0j h1
 have H2 := z0j h2
 have H3 := z0j h3
 clear h1 h2 h3 hsl
 go_enter Tryz.func21, Tryz.ntmps21
 go_wp2_with (first | go_skip | ((first | ((refine zf _ rfl ?_); refine lZ hp rfl (by with_reducible first | exact zZ | exact Zi) ?_; clear hp; intro b w1 hp) | ((refine zg _ _ rfl ?_); refine lB hp rfl (za rfl) rfl ?_; clear hp; intro b w1 hp) | ((refine ze _ _ rfl ?_); first | refine lO hp rfl (za rfl) Z5 aa5 ?_ | refine lA hp rfl (za rfl) z7 aa5 ?_ | refine lR hp rfl (za rfl) z7 HX.out ?_) | ((refine zd _ _ _ rfl ?_); (first | refine sO hp rfl (za rfl) Z5 aa5 ?_ | refine sA hp rfl (za rfl) (za rfl) z7 aa5 ?_ | refine sG hp rfl (za rfl) (za rfl) z7 aa5 ?_); clear hp; intro w1 hp; simp only [spl, z0a, z0b] at hp)); simp only [zc, zb, z0b, z0a])); refine Z0 0 rfl ?_; go_wp2_with (first | (go_at_call 67; (with_reducible refine (zE vw 0 900000000 _ H1.out _).mono ?_); rintro e w' ⟨rfl, rfl⟩) | (go_at_call 67; (with_reducible refine (zE nm 0 vw _ H2.out _).mono ?_); rintro e w' ⟨rfl, rfl⟩) | (go_at_call 67; (with_reducible refine (zE bs 0 900000000 _ H3.out _).mono ?_); rintro e w' ⟨rfl, rfl⟩) | (go_at_call 68; (with_reducible refine (z8 es bs ea ec _ H5.out HL.out _ (HA.out.below hp.below)).mono ?_); rintro e w1 ⟨rfl, hb⟩; replace hp := hp.call hb; clear hb) | go_skip | ((first | ((refine zf _ rfl ?_); refine lZ hp rfl (by with_reducible first | exact zZ | exact Zi) ?_; clear hp; intro b w1 hp) | ((refine zg _ _ rfl ?_); refine lB hp rfl (za rfl) rfl ?_; clear hp; intro b w1 hp) | ((refine ze _ _ rfl ?_); first | refine lO hp rfl (za rfl) Z5 aa5 ?_ | refine lA hp rfl (za rfl) z7 aa5 ?_ | refine lR hp rfl (za rfl) z7 HX.out ?_) | ((refine zd _ _ _ rfl ?_); (first | refine sO hp rfl (za rfl) Z5 aa5 ?_ | refine sA hp rfl (za rfl) (za rfl) z7 aa5 ?_ | refine sG hp rfl (za rfl) (za rfl) z7 aa5 ?_); clear hp; intro w1 hp; simp only [spl, z0a, z0b] at hp)); simp only [zc, zb, z0b, z0a]))
 (go_step3; refine And.intro rfl ?_; go_wp2; rw [Exit.noGoto_ret])
 (go_ret; exact ⟨rfl, hp.below⟩)
theorem ziz (vw nm bs : Int) (im : ByteArray) (ea : Option Addr) (es : List Env) (ec : Nat) (hs : Kv.Small ⟨vw, nm, bs, im, ea, es, ec⟩) (w : World) (ha : zm w ea (es.flatMap zQ)) (h1 : inM vw 0 900000000 = true) (h2 : inM nm 0 vw = true) (h3 : inM bs 0 900000000 = true) (h4 : ¬ es.length ≤ 4000) : Calls Tryz.prog 21 #[.agg #[.int .i64 vw, .int .i64 nm, .int .i64 bs, .string im, .slice ea es.length ec]] w fun e w' => e = .returned (.int .i64 1) ∧ Below w.heap.size w w' := by
 have hp := Hp.start w; have HA := z0j ha; have hsl : es.length ≤ 100000 := hs.1; have HL := z0j hsl; have hsi : im.size ≤ 1000000 := hs.2; have HIM : Hid (im.size ≤ 1000000000) := z0j (by omega); clear ha hs hsi
 have H1 := z0j h1
 have H2 := z0j h2
 have H3 := z0j h3
 have e4 : decide ((4000 : Int) < (es.length : Int)) = true := by simp; omega
 clear h1 h2 h3 h4 hsl
 go_enter Tryz.func21, Tryz.ntmps21
 go_wp2_with (first | go_skip | ((first | ((refine zf _ rfl ?_); refine lZ hp rfl (by with_reducible first | exact zZ | exact Zi) ?_; clear hp; intro b w1 hp) | ((refine zg _ _ rfl ?_); refine lB hp rfl (za rfl) rfl ?_; clear hp; intro b w1 hp) | ((refine ze _ _ rfl ?_); first | refine lO hp rfl (za rfl) Z5 aa5 ?_ | refine lA hp rfl (za rfl) z7 aa5 ?_ | refine lR hp rfl (za rfl) z7 HX.out ?_) | ((refine zd _ _ _ rfl ?_); (first | refine sO hp rfl (za rfl) Z5 aa5 ?_ | refine sA hp rfl (za rfl) (za rfl) z7 aa5 ?_ | refine sG hp rfl (za rfl) (za rfl) z7 aa5 ?_); clear hp; intro w1 hp; simp only [spl, z0a, z0b] at hp)); simp only [zc, zb, z0b, z0a])); refine Z0 0 rfl ?_; go_wp2_with (first | (go_at_call 67; (with_reducible refine (zE vw 0 900000000 _ H1.out _).mono ?_); rintro e w' ⟨rfl, rfl⟩) | (go_at_call 67; (with_reducible refine (zE nm 0 vw _ H2.out _).mono ?_); rintro e w' ⟨rfl, rfl⟩) | (go_at_call 67; (with_reducible refine (zE bs 0 900000000 _ H3.out _).mono ?_); rintro e w' ⟨rfl, rfl⟩) | (go_at_call 68; (with_reducible refine (z8 es bs ea ec _ H5.out HL.out _ (HA.out.below hp.below)).mono ?_); rintro e w1 ⟨rfl, hb⟩; replace hp := hp.call hb; clear hb) | go_skip | ((first | ((refine zf _ rfl ?_); refine lZ hp rfl (by with_reducible first | exact zZ | exact Zi) ?_; clear hp; intro b w1 hp) | ((refine zg _ _ rfl ?_); refine lB hp rfl (za rfl) rfl ?_; clear hp; intro b w1 hp) | ((refine ze _ _ rfl ?_); first | refine lO hp rfl (za rfl) Z5 aa5 ?_ | refine lA hp rfl (za rfl) z7 aa5 ?_ | refine lR hp rfl (za rfl) z7 HX.out ?_) | ((refine zd _ _ _ rfl ?_); (first | refine sO hp rfl (za rfl) Z5 aa5 ?_ | refine sA hp rfl (za rfl) (za rfl) z7 aa5 ?_ | refine sG hp rfl (za rfl) (za rfl) z7 aa5 ?_); clear hp; intro w1 hp; simp only [spl, z0a, z0b] at hp)); simp only [zc, zb, z0b, z0a]))
 (go_step3; refine And.intro rfl ?_; go_wp2; rw [Exit.noGoto_ret])
 (go_ret; exact ⟨rfl, hp.below⟩)
theorem ziD (vw nm bs : Int) (im : ByteArray) (ea : Option Addr) (es : List Env) (ec : Nat) (hs : Kv.Small ⟨vw, nm, bs, im, ea, es, ec⟩) (w : World) (ha : zm w ea (es.flatMap zQ)) (h1 : inM vw 0 900000000 = true) (h2 : inM nm 0 vw = true) (h3 : inM bs 0 900000000 = true) (h4 : es.length ≤ 4000) (h5 : zaB bs 0 es = false) : Calls Tryz.prog 21 #[.agg #[.int .i64 vw, .int .i64 nm, .int .i64 bs, .string im, .slice ea es.length ec]] w fun e w' => e = .returned (.int .i64 1) ∧ Below w.heap.size w w' := by
 have hp := Hp.start w; have HA := z0j ha; have hsl : es.length ≤ 100000 := hs.1; have HL := z0j hsl; have hsi : im.size ≤ 1000000 := hs.2; have HIM : Hid (im.size ≤ 1000000000) := z0j (by omega); clear ha hs hsi
 have H1 := z0j h1
 have H2 := z0j h2
 have H3 := z0j h3
 have H5 := z0j h5
 have e4 : decide ((4000 : Int) < (es.length : Int)) = false := by simp; omega
 clear h1 h2 h3 h4 h5 hsl
 go_enter Tryz.func21, Tryz.ntmps21
 go_wp2_with (first | go_skip | ((first | ((refine zf _ rfl ?_); refine lZ hp rfl (by with_reducible first | exact zZ | exact Zi) ?_; clear hp; intro b w1 hp) | ((refine zg _ _ rfl ?_); refine lB hp rfl (za rfl) rfl ?_; clear hp; intro b w1 hp) | ((refine ze _ _ rfl ?_); first | refine lO hp rfl (za rfl) Z5 aa5 ?_ | refine lA hp rfl (za rfl) z7 aa5 ?_ | refine lR hp rfl (za rfl) z7 HX.out ?_) | ((refine zd _ _ _ rfl ?_); (first | refine sO hp rfl (za rfl) Z5 aa5 ?_ | refine sA hp rfl (za rfl) (za rfl) z7 aa5 ?_ | refine sG hp rfl (za rfl) (za rfl) z7 aa5 ?_); clear hp; intro w1 hp; simp only [spl, z0a, z0b] at hp)); simp only [zc, zb, z0b, z0a])); refine Z0 0 rfl ?_; go_wp2_with (first | (go_at_call 67; (with_reducible refine (zE vw 0 900000000 _ H1.out _).mono ?_); rintro e w' ⟨rfl, rfl⟩) | (go_at_call 67; (with_reducible refine (zE nm 0 vw _ H2.out _).mono ?_); rintro e w' ⟨rfl, rfl⟩) | (go_at_call 67; (with_reducible refine (zE bs 0 900000000 _ H3.out _).mono ?_); rintro e w' ⟨rfl, rfl⟩) | (go_at_call 68; (with_reducible refine (z8 es bs ea ec _ H5.out HL.out _ (HA.out.below hp.below)).mono ?_); rintro e w1 ⟨rfl, hb⟩; replace hp := hp.call hb; clear hb) | go_skip | ((first | ((refine zf _ rfl ?_); refine lZ hp rfl (by with_reducible first | exact zZ | exact Zi) ?_; clear hp; intro b w1 hp) | ((refine zg _ _ rfl ?_); refine lB hp rfl (za rfl) rfl ?_; clear hp; intro b w1 hp) | ((refine ze _ _ rfl ?_); first | refine lO hp rfl (za rfl) Z5 aa5 ?_ | refine lA hp rfl (za rfl) z7 aa5 ?_ | refine lR hp rfl (za rfl) z7 HX.out ?_) | ((refine zd _ _ _ rfl ?_); (first | refine sO hp rfl (za rfl) Z5 aa5 ?_ | refine sA hp rfl (za rfl) (za rfl) z7 aa5 ?_ | refine sG hp rfl (za rfl) (za rfl) z7 aa5 ?_); clear hp; intro w1 hp; simp only [spl, z0a, z0b] at hp)); simp only [zc, zb, z0b, z0a]))
 (go_step3; refine And.intro rfl ?_; go_wp2; rw [Exit.noGoto_ret])
 (go_ret; exact ⟨rfl, hp.below⟩)
theorem ziW (vw nm bs : Int) (im : ByteArray) (ea : Option Addr) (es : List Env) (ec : Nat) (hs : Kv.Small ⟨vw, nm, bs, im, ea, es, ec⟩) (w : World) (ha : zm w ea (es.flatMap zQ)) (h1 : inM vw 0 900000000 = true) (h2 : inM nm 0 vw = true) (h3 : inM bs 0 900000000 = true) (h4 : es.length ≤ 4000) (h5 : zaB bs 0 es = true) :
  Calls Tryz.prog 21 #[.agg #[.int .i64 vw, .int .i64 nm, .int .i64 bs, .string im, .slice ea es.length ec]] w fun e w' => e = .returned (.int .i64 (if (zdo nm 0 es && (zab (zbV im)).isSome) = true then 0 else 1)) ∧ Below w.heap.size w w' := by
 have hp := Hp.start w; have HA := z0j ha; have hsl : es.length ≤ 100000 := hs.1; have HL := z0j hsl; have hsi : im.size ≤ 1000000 := hs.2; have HIM : Hid (im.size ≤ 1000000000) := z0j (by omega); clear ha hs hsi
 have H1 := z0j h1
 have H2 := z0j h2
 have H3 := z0j h3
 have H5 := z0j h5
 have e4 : decide ((4000 : Int) < (es.length : Int)) = false := by simp; omega
 clear h1 h2 h3 h4 h5 hsl
 go_enter Tryz.func21, Tryz.ntmps21
 go_wp2_with (first | go_skip | ((first | ((refine zf _ rfl ?_); refine lZ hp rfl (by with_reducible first | exact zZ | exact Zi) ?_; clear hp; intro b w1 hp) | ((refine zg _ _ rfl ?_); refine lB hp rfl (za rfl) rfl ?_; clear hp; intro b w1 hp) | ((refine ze _ _ rfl ?_); first | refine lO hp rfl (za rfl) Z5 aa5 ?_ | refine lA hp rfl (za rfl) z7 aa5 ?_ | refine lR hp rfl (za rfl) z7 HX.out ?_) | ((refine zd _ _ _ rfl ?_); (first | refine sO hp rfl (za rfl) Z5 aa5 ?_ | refine sA hp rfl (za rfl) (za rfl) z7 aa5 ?_ | refine sG hp rfl (za rfl) (za rfl) z7 aa5 ?_); clear hp; intro w1 hp; simp only [spl, z0a, z0b] at hp)); simp only [zc, zb, z0b, z0a])); refine Z0 0 rfl ?_; go_wp2_with (first | (go_at_call 67; (with_reducible refine (zE vw 0 900000000 _ H1.out _).mono ?_); rintro e w' ⟨rfl, rfl⟩) | (go_at_call 67; (with_reducible refine (zE nm 0 vw _ H2.out _).mono ?_); rintro e w' ⟨rfl, rfl⟩) | (go_at_call 67; (with_reducible refine (zE bs 0 900000000 _ H3.out _).mono ?_); rintro e w' ⟨rfl, rfl⟩) | (go_at_call 68; (with_reducible refine (z8 es bs ea ec _ H5.out HL.out _ (HA.out.below hp.below)).mono ?_); rintro e w1 ⟨rfl, hb⟩; replace hp := hp.call hb; clear hb) | go_skip | ((first | ((refine zf _ rfl ?_); refine lZ hp rfl (by with_reducible first | exact zZ | exact Zi) ?_; clear hp; intro b w1 hp) | ((refine zg _ _ rfl ?_); refine lB hp rfl (za rfl) rfl ?_; clear hp; intro b w1 hp) | ((refine ze _ _ rfl ?_); first | refine lO hp rfl (za rfl) Z5 aa5 ?_ | refine lA hp rfl (za rfl) z7 aa5 ?_ | refine lR hp rfl (za rfl) z7 HX.out ?_) | ((refine zd _ _ _ rfl ?_); (first | refine sO hp rfl (za rfl) Z5 aa5 ?_ | refine sA hp rfl (za rfl) (za rfl) z7 aa5 ?_ | refine sG hp rfl (za rfl) (za rfl) z7 aa5 ?_); clear hp; intro w1 hp; simp only [spl, z0a, z0b] at hp)); simp only [zc, zb, z0b, z0a]))
 obtain ⟨bk, hbk⟩ := hp.id0
 subst hbk
 have hsl := HL.out
 go_loopg [3, 43] es.length (fun k v i wr => ∃ (q : Nat) (vq : Int), k + q = es.length ∧ i = .int .i64 q ∧ v = .int .i64 vq ∧ Hid (zdo nm 0 es = zdo nm vq (es.drop q)) ∧ Hp w.heap.size w wr [⟨bk, [.int .i64 vw, .int .i64 nm, .int .i64 bs, .string im, .slice ea es.length ec], 28, 5⟩])
 case atStart => exact ⟨0, 0, by omega, rfl, rfl, z0j rfl, hp⟩
 case round =>
  clear hp
  obtain ⟨q, vq, hkq, rfl, rfl, HF, hp⟩ := hrel
  by_cases hlt : q < es.length
  ·obtain ⟨bq, off, rfl, hx⟩ := HA.out.elems 11 zP (by omega) (by omega)
   have hj := List.getElem?_eq_getElem hlt
   replace hx := hx q _ hj
   have hd := List.drop_eq_getElem_cons hlt
   clear hj
   generalize es[q] = en at hx hd
   obtain ⟨nu, vi, cl, sq, ⟨kk, hh, ii, nn, cc, vv, tt⟩⟩ := en
   simp only [zQ, opL, z0f, z0e] at hx
   have HX := z0j hx
   have HF2 : Hid (zdo nm 0 es = (zew ⟨nu, vi, cl, sq, ⟨kk, hh, ii, nn, cc, vv, tt⟩⟩ && (inM vi vq nm && zdo nm vi (es.drop (q + 1))))) := z0j (by rw [HF.out, hd]; rfl)
   have f1 : (0 : Int) ≤ (q : Int) := by omega
   have f2 : (q : Int) < (es.length : Int) := by omega
   clear hx hd HF
   cases hm : zew ⟨nu, vi, cl, sq, ⟨kk, hh, ii, nn, cc, vv, tt⟩⟩ with
   | false =>
    have HM := z0j hm
    clear hm
    go_wp2_with (first | (go_at_call 69; (with_reducible refine (zfn _ _ _ _ _ _ _ _ _ _ _ _ HM.out _).mono ?_); rintro e w1 ⟨rfl, hb⟩; replace hp := hp.call hb; clear hb) | go_skip | ((first | ((refine zf _ rfl ?_); refine lZ hp rfl (by with_reducible first | exact zZ | exact Zi) ?_; clear hp; intro b w1 hp) | ((refine zg _ _ rfl ?_); refine lB hp rfl (za rfl) rfl ?_; clear hp; intro b w1 hp) | ((refine ze _ _ rfl ?_); first | refine lO hp rfl (za rfl) Z5 aa5 ?_ | refine lA hp rfl (za rfl) zr aa5 ?_ | refine lR hp rfl (za rfl) zr HX.out ?_) | ((refine zd _ _ _ rfl ?_); (first | refine sA hp rfl (za rfl) (za rfl) z7 aa5 ?_ | refine sG hp rfl (za rfl) (za rfl) z7 aa5 ?_); clear hp; intro w1 hp; simp only [spl, z0a, z0b] at hp)); simp only [zc, zb, z0b, z0a]))
    (go_step3; refine And.intro rfl ?_; go_wp2; rw [Exit.noGoto_ret])
    go_ret
    refine ⟨?_, hp.below⟩
    rw [HF2.out, HM.out]; rfl
   | true =>
    have HM := z0j hm
    clear hm
    cases hv : inM vi vq nm with
    | false =>
     have HV := z0j hv
     clear hv
     go_wp2_with (first | (go_at_call 69; (with_reducible refine (zfn _ _ _ _ _ _ _ _ _ _ _ _ HM.out _).mono ?_); rintro e w1 ⟨rfl, hb⟩; replace hp := hp.call hb; clear hb) | (go_at_call 67; (with_reducible refine (zE vi vq nm _ HV.out _).mono ?_); rintro e w' ⟨rfl, rfl⟩) | go_skip | ((first | ((refine zf _ rfl ?_); refine lZ hp rfl (by with_reducible first | exact zZ | exact Zi) ?_; clear hp; intro b w1 hp) | ((refine zg _ _ rfl ?_); refine lB hp rfl (za rfl) rfl ?_; clear hp; intro b w1 hp) | ((refine ze _ _ rfl ?_); first | refine lO hp rfl (za rfl) Z5 aa5 ?_ | refine lA hp rfl (za rfl) zr aa5 ?_ | refine lR hp rfl (za rfl) zr HX.out ?_) | ((refine zd _ _ _ rfl ?_); (first | refine sA hp rfl (za rfl) (za rfl) z7 aa5 ?_ | refine sG hp rfl (za rfl) (za rfl) z7 aa5 ?_); clear hp; intro w1 hp; simp only [spl, z0a, z0b] at hp)); simp only [zc, zb, z0b, z0a]))
     (go_step3; refine And.intro rfl ?_; go_wp2; rw [Exit.noGoto_ret])
     go_ret
     refine ⟨?_, hp.below⟩
     rw [HF2.out, HM.out, HV.out]; rfl
    | true =>
     have HV := z0j hv
     clear hv
     go_wp2_with (first | (go_at_call 69; (with_reducible refine (zfn _ _ _ _ _ _ _ _ _ _ _ _ HM.out _).mono ?_); rintro e w1 ⟨rfl, hb⟩; replace hp := hp.call hb; clear hb) | (go_at_call 67; (with_reducible refine (zE vi vq nm _ HV.out _).mono ?_); rintro e w' ⟨rfl, rfl⟩) | go_skip | ((first | ((refine zf _ rfl ?_); refine lZ hp rfl (by with_reducible first | exact zZ | exact Zi) ?_; clear hp; intro b w1 hp) | ((refine zg _ _ rfl ?_); refine lB hp rfl (za rfl) rfl ?_; clear hp; intro b w1 hp) | ((refine ze _ _ rfl ?_); first | refine lO hp rfl (za rfl) Z5 aa5 ?_ | refine lA hp rfl (za rfl) zr aa5 ?_ | refine lR hp rfl (za rfl) zr HX.out ?_) | ((refine zd _ _ _ rfl ?_); (first | refine sA hp rfl (za rfl) (za rfl) z7 aa5 ?_ | refine sG hp rfl (za rfl) (za rfl) z7 aa5 ?_); clear hp; intro w1 hp; simp only [spl, z0a, z0b] at hp)); simp only [zc, zb, z0b, z0a]))
     go_roundg (gk - 1)
     case measure => omega
     case rel => exact ⟨q + 1, vi, by omega, by go_num, rfl, z0j (by rw [HF2.out, HM.out, HV.out]; simp), hp.tail⟩
  ·obtain rfl : q = es.length := by omega
   have e2 : decide ((es.length : Int) < (es.length : Int)) = false := by simp
   have HE : Hid (zdo nm 0 es = true) := z0j (by rw [HF.out, List.drop_length]; rfl)
   clear hkq hlt HF
   cases hst : zab (zbV im) with
   | none =>
    have HS := z0j hst
    clear hst
    go_wp2_with (first | ((refine Zx _ _ _ rfl ?_); refine ZM hp 9 74 5 _ rfl wy Tryz.underlying9 Tryz.underlying74 Tryz.underlying5 _ (za rfl) ?_; clear hp; intro ad cb w1 hcb had hp; have HCB := z0j hcb; have HAD := z0j had; clear hcb had; simp only [zc, zb, z0b, z0a]) | (go_at_call 70; (with_reducible refine (zk0 im HS.out ad cb HCB.out HIM.out _ HAD.out).mono ?_); rintro e w1 ⟨rfl, hb⟩; replace hp := hp.call hb; clear hb) | go_skip | ((first | ((refine zf _ rfl ?_); refine lZ hp rfl (by with_reducible first | exact zZ | exact Zi) ?_; clear hp; intro b w1 hp) | ((refine zg _ _ rfl ?_); refine lB hp rfl (za rfl) rfl ?_; clear hp; intro b w1 hp) | ((refine ze _ _ rfl ?_); first | refine lO hp rfl (za rfl) Z5 aa5 ?_ | refine lA hp rfl (za rfl) zr aa5 ?_ | refine lR hp rfl (za rfl) zr HX.out ?_) | ((refine zd _ _ _ rfl ?_); (first | refine sA hp rfl (za rfl) (za rfl) z7 aa5 ?_ | refine sG hp rfl (za rfl) (za rfl) z7 aa5 ?_); clear hp; intro w1 hp; simp only [spl, z0a, z0b] at hp)); simp only [zc, zb, z0b, z0a]))
    go_step3
    go_wp2
    try simp only [Exit.inBlock, Exit.then]
    refine zf1 ?_
    go_ret
    refine ⟨?_, hp.below⟩
    rw [HE.out, HS.out]; rfl
   | some x =>
    have HS := z0j hst
    clear hst
    go_wp2_with (first | ((refine Zx _ _ _ rfl ?_); refine ZM hp 9 74 5 _ rfl wy Tryz.underlying9 Tryz.underlying74 Tryz.underlying5 _ (za rfl) ?_; clear hp; intro ad cb w1 hcb had hp; have HCB := z0j hcb; have HAD := z0j had; clear hcb had; simp only [zc, zb, z0b, z0a]) | (go_at_call 70; (with_reducible refine (ziv im _ HS.out ad cb HCB.out HIM.out _ HAD.out).mono ?_); rintro e w1 ⟨odX, oaX, osX, ocX, nxX, t0X, t1X, t2X, t3X, faX, fsX, fcX, raX, rsX, rcX, RX, rfl, _, _, hpn⟩; replace hp := hp.join hpn; clear hpn; simp only [z0f, z0e] at hp) | go_skip | ((first | ((refine zf _ rfl ?_); refine lZ hp rfl (by with_reducible first | exact zZ | exact Zi) ?_; clear hp; intro b w1 hp) | ((refine zg _ _ rfl ?_); refine lB hp rfl (za rfl) rfl ?_; clear hp; intro b w1 hp) | ((refine ze _ _ rfl ?_); first | refine lO hp rfl (za rfl) Z5 aa5 ?_ | refine lA hp rfl (za rfl) zr aa5 ?_ | refine lR hp rfl (za rfl) zr HX.out ?_) | ((refine zd _ _ _ rfl ?_); (first | refine sA hp rfl (za rfl) (za rfl) z7 aa5 ?_ | refine sG hp rfl (za rfl) (za rfl) z7 aa5 ?_); clear hp; intro w1 hp; simp only [spl, z0a, z0b] at hp)); simp only [zc, zb, z0b, z0a]))
    try simp only [Exit.inBlock, Exit.then]
    refine zf1 ?_
    go_ret
    refine ⟨?_, hp.below⟩
    rw [HE.out, HS.out]; rfl
theorem Zb (vw nm bs : Int) (im : ByteArray) (ea : Option Addr) (es : List Env) (ec : Nat) (b : Bool) (hb : okC ⟨vw, nm, bs, im, ea, es, ec⟩ = b) (hs : Kv.Small ⟨vw, nm, bs, im, ea, es, ec⟩) (w : World) (ha : zm w ea (es.flatMap zQ)) :
  Calls Tryz.prog 21 #[.agg #[.int .i64 vw, .int .i64 nm, .int .i64 bs, .string im, .slice ea es.length ec]] w fun e w' => e = .returned (.int .i64 (if b = true then 0 else 1)) ∧ Below w.heap.size w w' := by
 subst hb
 unfold okC
 simp only
 cases h1 : inM vw 0 900000000 with
 | false => exact zjn vw nm bs im ea es ec hs w ha h1
 | true =>
  cases h2 : inM nm 0 vw with
  | false => exact zju vw nm bs im ea es ec hs w ha h1 h2
  | true =>
   cases h3 : inM bs 0 900000000 with
   | false => exact zi9 vw nm bs im ea es ec hs w ha h1 h2 h3
   | true =>
    by_cases h4 : es.length ≤ 4000
    ·cases h5 : zaB bs 0 es with
     | false =>
      have := ziD vw nm bs im ea es ec hs w ha h1 h2 h3 h4 h5
      simpa [h4] using this
     | true =>
      have := ziW vw nm bs im ea es ec hs w ha h1 h2 h3 h4 h5
      simpa [h4] using this
    ·have := ziz vw nm bs im ea es ec hs w ha h1 h2 h3 h4
     simpa [h4] using this
end Go.Proofs.YtjcbpfbifbfkcaaGreat
