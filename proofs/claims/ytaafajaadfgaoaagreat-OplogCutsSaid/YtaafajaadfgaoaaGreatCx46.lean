import Derived.Test.YtaafajaadfgaoaaGreatCx40
import Derived.Test.YtaafajaadfgaoaaGreatCx45
import Derived.Test.YtaafajaadfgaoaaGreatCx37
set_option linter.unusedSimpArgs false
set_option linter.unusedVariables false
set_option maxRecDepth 100000
set_option maxHeartbeats 60000000
namespace Go.Proofs.YtaafajaadfgaoaaGreat
open Go.RowKit
theorem zbd {ty : TypeId} {k : Nat} (h : ZB Tryz.prog ty k = true := by with_reducible first | exact zbf | exact zap | exact zfM) : ZB Tryz.prog ty k = true := h
theorem zmq {ty : TypeId} (h : zy Tryz.prog ty = true := by with_reducible first | exact zr | exact Ze | exact Zb | exact zev | exact zaj) : zy Tryz.prog ty = true := h
theorem zlO {x : Sv} (hx : StR x) : (zav x).length ≤ 5000 := by
 have h1 := zdG hx.hv
 have h2 := zbj hx.rows (by decide)
 unfold zav
 rw [List.length_append, List.length_append, List.length_append, Zp, ZZ, zdP]
 simp only [z0g, z0h]
 omega
theorem zp1 (r : Rw) : zan (zeI r) := by unfold zeI; exact (zbk _).app (zht _)
theorem zlN (x : Sv) : zan (zav x) := by
 unfold zav
 refine zan.app (zan.app (ze2 4 _) (zdl _)) (zan.app (zbk _) fun y hy => ?_)
 obtain ⟨r, _, h⟩ := List.mem_flatMap.1 hy
 exact zp1 r y h
theorem zpV (w : World) : Calls Tryz.prog 29 #[.agg #[.int .i64 0, .slice none 0 0, .int .i64 0, .int .i64 0, .int .i64 0, .int .i64 0, .int .i64 0, .slice none 0 0, .slice none 0 0]] w fun e w' => e = .returned (.tuple #[.slice none 0 0, .int .i64 60]) ∧ Below w.heap.size w w' :=
 znD 0 none [] 0 0 0 0 0 0 none [] 0 none [] 0 zp8 ziB (by decide) w (zd9.at (Hp.start w) (fun p h => by cases h) |> fun h => ⟨h, zm.nil _ _⟩)
theorem zsS (vw nm bs : Int) (im : ByteArray) (ea : Option Addr) (es : List Env) (ec : Nat) (w : World) : Calls Tryz.prog 13 #[.agg #[.int .i64 vw, .int .i64 nm, .int .i64 bs, .string im, .slice ea es.length ec], .agg #[.int .i64 0, .int .i64 0, .int .i64 0, .int .i64 0, .string ⟨#[]⟩, .int .i64 0, .int .i64 0, .int .i64 0, .int .i64 0, .int .i64 0, .int .i64 0, .int .i64 0, .int .i64 0, .int .i64 0, .int .i64 0, .int .i64 0, .slice none 0 0]] w (zuU w es.length 0 im.size 0) := zur vw nm bs im ea es ec 0 0 0 0 ⟨#[]⟩ 0 0 0 0 0 0 0 0 0 0 0 none [] 0 w
theorem zvl (vw nm bs : Int) (im : ByteArray) (ea : Option Addr) (es : List Env) (ec : Nat) (cn n : Int) (hec : es.length ≤ ec) (ho : ∀ e ∈ es, I64 e.op.v) (w : World) (ha : zm w ea (es.flatMap Zy)) :
  Calls Tryz.prog 5 #[.agg #[.int .i64 vw, .int .i64 nm, .int .i64 bs, .string im, .slice ea es.length ec], .int .i64 cn, .int .i64 n] w fun e w' => e = .returned (.bool true) ∧ Below w.heap.size w w' := by
 have hp := Hp.start w
 have HA := z0j ha
 have HEC := z0j hec
 have HO := z0j ho
 clear ha hec ho
 obtain ⟨c1, hc1⟩ : ∃ c, zbS ⟨vw, nm, bs, im, ea, es, ec⟩ cn = c := ⟨_, rfl⟩
 obtain ⟨c2, hc2⟩ : ∃ c, zbS ⟨vw, nm, bs, im, ea, es, ec⟩ n = c := ⟨_, rfl⟩
 have HE1 := z0j hc1
 have HE2 := z0j hc2
 obtain ⟨s1, hs1⟩ : ∃ s, stC ⟨vw, nm, bs, im, ea, es, ec⟩ cn = s := ⟨_, rfl⟩
 obtain ⟨s2, hs2⟩ : ∃ s, stC ⟨vw, nm, bs, im, ea, es, ec⟩ n = s := ⟨_, rfl⟩
 have HS1 := z0j hs1
 have HS2 := z0j hs2
 clear hs1 hs2 hc1 hc2
 go_enter Tryz.func5, Tryz.ntmps5
 go_wp2_with (first | (go_at_call 13; (with_reducible refine (zsS vw nm bs im ea es ec _).mono ?_); rintro e w1 ⟨bb, rfl, hbb, hb⟩; replace hp := hp.call hb; clear hb; cases bb) | ((first | ((refine zk _ _ rfl ?_); refine lB hp rfl (za rfl) rfl ?_; clear hp; intro b w1 hp) | ((refine zd _ _ rfl ?_); first | refine lA hp rfl (za rfl) zbd zK ?_)); simp only [zc, zb, z0b, z0a]))
 ·obtain ⟨b1, b2, b3, b4⟩ := hbb (by first | rfl | trivial)
  have HSX : Hid (Kv.Small ⟨vw, nm, bs, im, ea, es, ec⟩) := z0j ⟨by simp only; omega, by simp only; omega⟩
  have HF1 : Hid (es.length ≤ 1500) := z0j (by omega)
  have HF2 : Hid (im.size ≤ 1000000) := z0j (by omega)
  clear hbb b1 b2 b3 b4
  by_cases z1 : c1 = 0
  case neg =>
   have f1 : (c1 == 0) = false := by simpa using z1
   have HC1 := z0j z1
   clear z1
   go_wp2_with (first | (go_at_call 28; (with_reducible refine (zfA vw nm bs im ea es ec cn c1 HC1.out HE1.out HSX.out _ (HA.out.below hp.below)).mono ?_); rintro e w1 ⟨rfl, hb⟩; replace hp := hp.call hb; clear hb) | (go_at_call 29; (with_reducible refine (zpV _).mono ?_); rintro e w1 ⟨rfl, hb⟩; replace hp := hp.call hb; clear hb) | (go_at_call 30; (with_reducible refine (zfd _).mono ?_); rintro e w1 ⟨rfl, hb⟩; replace hp := hp.call hb; clear hb) | (go_at_call 31; (with_reducible refine (zdR _).mono ?_); rintro e w1 ⟨rfl, hb⟩; replace hp := hp.call hb; clear hb) | ((first | ((refine zi _ rfl ?_); refine lZ hp rfl (by with_reducible first | exact Zt) ?_; clear hp; intro b w1 hp) | ((refine zd _ _ rfl ?_); first | refine lA hp rfl (za rfl) zbd zK ?_) | ((refine zg _ _ _ rfl ?_); (first | refine sA hp rfl (za rfl) (za rfl) zbd zK ?_); clear hp; intro w1 hp; simp only [spl, z0a, z0b] at hp)); simp only [zc, zb, z0b, z0a]))
   go_ret
   refine ⟨zU ?_, hp.below⟩
   simpa using HC1.out
  subst z1
  obtain ⟨g1, g2, g3⟩ := zej HE1.out
  have hr1 : StR s1 := by rw [← HS1.out]; exact zfy g1 cn
  have HOK := z0j g1
  have hsl := zlO hr1
  have hsb := zlN s1
  obtain ⟨ss, hss⟩ : ∃ ss, zav s1 = ss := ⟨_, rfl⟩
  obtain ⟨mh, hmh⟩ : ∃ mh, ss.length = mh := ⟨_, rfl⟩
  obtain ⟨ix, hix⟩ : ∃ ix, strOfNums (nI ss) = ix := ⟨_, rfl⟩
  rw [hss] at hsl hsb
  have hsi : zbz ix = zav (stC ⟨vw, nm, bs, im, ea, es, ec⟩ cn) := by rw [HS1.out, hss, ← hix, zbt hsb]
  have HIX := z0j hix
  have HMS := z0j hmh
  have HNI : Hid ((nI ss).length = mh) := z0j (by rw [zh5]; exact hmh)
  have HF3 : Hid (ix.size ≤ 1000000) := z0j (by rw [← ZR, ← hix, zbt hsb]; omega)
  have hsome : (ZQ (zbz ix)).isSome = true := by rw [zmx g1 HO.out hsi]; rfl
  have hfc := zpb (ra := none) (rc := 0) (en := ⟨0, 0, 0, 0, ⟨0, 0, 0, 0, 0, 0, 0⟩⟩) g1 g2 g3 hsome
  have HQ : Hid (∀ y : Sv, y.Sm s1 → stB y = true ∧ zav y = ss) := z0j (fun y h => ⟨(zio h).trans (zkx hr1), by rw [ziq h, hss]⟩)
  go_wp2_with (first | (go_at_call 28; (with_reducible refine (zfB vw nm bs im ea es ec cn s1 HS1.out HE1.out HSX.out HEC.out _ (HA.out.below hp.below)).mono ?_); rintro e w1 ⟨odX, oaX, osX, ocX, nxX, t0X, t1X, t2X, t3X, faX, fsX, fcX, raX, rsX, rcX, RX, rfl, hyX, hkX, hpX⟩; replace hp := hp.join hpX; have HYX := z0j hyX; have HKX := z0j hkX; clear hpX hyX hkX; simp only [z0f, z0e, z0i] at hp) | ((first | ((refine zi _ rfl ?_); refine lZ hp rfl (by with_reducible first | exact Zt) ?_; clear hp; intro b w1 hp) | ((refine zd _ _ rfl ?_); first | refine lA hp rfl (za rfl) zbd zK ?_) | ((refine zg _ _ _ rfl ?_); (first | refine sA hp rfl (za rfl) (za rfl) zbd zK ?_); clear hp; intro w1 hp; simp only [spl, z0a, z0b] at hp)); simp only [zc, zb, z0b, z0a]))
  have HPB := z0j (HQ.out _ HYX.out).1
  have HPS := z0j (HQ.out _ HYX.out).2
  by_cases hcb : cn = bs
  ·rw [if_pos hcb] at hfc
   have HFN : Hid (zbm ⟨vw, nm, bs, im, ea, es, ec⟩ ⟨4, 0, 0, cn, ix, ⟨0, 0, 0, 0, ⟨0, 0, 0, 0, 0, 0, 0⟩⟩, none, [], 0⟩ = (140, ⟨vw, nm, bs, im, ea, es, ec⟩)) := z0j hfc
   have f4 : (cn == bs) = true := by simpa using hcb
   clear hcb hfc hsome hsi hss hmh hix hsl hsb hr1 g1 g2 g3
   go_wp2_with (first | (go_at_call 29; (with_reducible refine (zc2 odX oaX osX ocX nxX t0X t1X t2X t3X faX fsX fcX raX rsX rcX HPB.out ss HPS.out mh HMS.out _ (HKX.out.at hp (fun p hm => by simp [hm]))).mono ?_); rintro e w1 ⟨ah, ch, RP, rfl, hrp, hpn⟩; replace hp := hp.join hpn; have HRP := z0j hrp; clear hpn hrp; simp only [z0f, z0e, z0i] at hp) | ((refine z8 _ _ _ rfl ?_); refine Zs 57 9 5 _ rfl wy Tryz.underlying57 Tryz.underlying5 Tryz.underlying9 ah mh ch (za rfl) (nI ss) HNI.out (by rw [zbG]; exact HRP.out.keptS.at hp (by intro p hp2; simp [hp2])) ?_; rw [HIX.out]; simp only [zc, zb, z0b, z0a]) | (go_at_call 16; (with_reducible refine (zmL vw nm bs im ea es _ ec rfl 4 0 0 cn ix 0 0 0 0 0 0 0 0 0 0 0 none [] 0 0 rfl 140 _ (by decide) HFN.out HF1.out HF2.out (by decide) (by decide) HF3.out _ (HA.out.below hp.below) (zm.nil _ _)).mono ?_); rintro e w1 ⟨rfl, hb⟩; replace hp := hp.call hb; clear hb) | (go_at_call 30; (with_reducible refine (zfd _).mono ?_); rintro e w1 ⟨rfl, hb⟩; replace hp := hp.call hb; clear hb) | (go_at_call 31; (with_reducible refine (zdR _).mono ?_); rintro e w1 ⟨rfl, hb⟩; replace hp := hp.call hb; clear hb) | ((first | ((refine zi _ rfl ?_); refine lZ hp rfl (by with_reducible first | exact zaR) ?_; clear hp; intro b w1 hp) | ((refine zd _ _ rfl ?_); first | refine lO hp rfl (za rfl) zmq zK ?_ | refine lA hp rfl (za rfl) zbd zK ?_) | ((refine zg _ _ _ rfl ?_); (first | refine sA hp rfl (za rfl) (za rfl) zbd zK ?_); clear hp; intro w1 hp; simp only [spl, z0a, z0b] at hp)); simp only [zc, zb, z0b, z0a]))
   go_ret
   exact ⟨rfl, hp.below⟩
  ·rw [if_neg hcb] at hfc
   obtain ⟨ex, hex⟩ : ∃ ex, es.drop (cn - bs).toNat = ex := ⟨_, rfl⟩
   have hxl : ex.length = es.length - (cn - bs).toNat := by rw [← hex, List.length_drop]
   have HFY : Hid (zbm ⟨vw, nm, bs, im, ea, es, ec⟩ ⟨4, 0, 0, cn, ix, ⟨0, 0, 0, 0, ⟨0, 0, 0, 0, 0, 0, 0⟩⟩, none, [], 0⟩ = (0, ⟨vw, nm, cn, ix, ea, ex, ec⟩)) := z0j (by rw [← hex]; exact hfc)
   have HOX : Hid (∀ (ax : Option Addr) (cx : Nat), okC ⟨vw, nm, cn, ix, ax, ex, cx⟩ = true) := z0j (fun ax cx => by rw [← hex]; exact zmy g1 g2 g3 hsome)
   have HSC : Hid (∀ (ax : Option Addr) (cx : Nat), Kv.Small ⟨vw, nm, cn, ix, ax, ex, cx⟩) := z0j (fun ax cx => ⟨by have := HF1.out; simp only; omega, by have h3 := HF3.out; have : ix.size ≤ 5000 := (by rw [← ZR, ← hix, zbt hsb]; omega); simp only; omega⟩)
   have hgl : cn ≤ bs + es.length := g3
   have hgb : bs ≤ cn := g2
   have HLE : Hid (wrap64 (cn + (ex.length : Int)) = wrap64 (bs + (es.length : Int))) := z0j (by rw [hxl]; congr 1; omega)
   have hce : ∀ (ax : Option Addr) (cx : Nat), zbS ⟨vw, nm, cn, ix, ax, ex, cx⟩ n = if n < cn ∨ bs + (es.length : Int) < n then 140 else 0 := fun ax cx => by rw [← hex]; exact zri g1 g2 g3 hsome n
   by_cases z2 : c2 = 0
   case neg =>
    have f2 : (c2 == 0) = false := by simpa using z2
    have f5 : (c2 != 0) = true := by simpa using z2
    have HC2 := z0j z2
    have HE3 : Hid (∀ (ax : Option Addr) (cx : Nat), zbS ⟨vw, nm, cn, ix, ax, ex, cx⟩ n = 140) := z0j (fun ax cx => by
     rw [hce]
     have h2 := HE2.out
     unfold zbS zaM at h2
     rw [if_pos g1] at h2
     simp only at h2
     split at h2
     ·rw [if_pos (by omega)]
     ·exact absurd h2.symm z2)
    clear z2 hce hxl hex hgl hgb hcb hfc hsome hsi hss hmh hix hsl hsb hr1 g1 g2 g3
    go_wp2_with (first | (go_at_call 29; (with_reducible refine (zc2 odX oaX osX ocX nxX t0X t1X t2X t3X faX fsX fcX raX rsX rcX HPB.out ss HPS.out mh HMS.out _ (HKX.out.at hp (fun p hm => by simp [hm]))).mono ?_); rintro e w1 ⟨ah, ch, RP, rfl, hrp, hpn⟩; replace hp := hp.join hpn; have HRP := z0j hrp; clear hpn hrp; simp only [z0f, z0e, z0i] at hp) | ((refine z8 _ _ _ rfl ?_); refine Zs 57 9 5 _ rfl wy Tryz.underlying57 Tryz.underlying5 Tryz.underlying9 ah mh ch (za rfl) (nI ss) HNI.out (by rw [zbG]; exact HRP.out.keptS.at hp (by intro p hp2; simp [hp2])) ?_; rw [HIX.out]; simp only [zc, zb, z0b, z0a]) | (go_at_call 16; (with_reducible refine (zdF vw nm bs im ea es _ ec rfl 4 0 0 cn ix 0 0 0 0 0 0 0 0 0 0 0 none [] 0 0 rfl vw nm cn ix ex _ rfl ea ec HFY.out HF1.out HF2.out (by decide) (by decide) HF3.out _ (HA.out.below hp.below) (zm.nil _ _)).mono ?_); rintro e w1 ⟨ax, cx, RC, rfl, hcx, hrc, hpn⟩; replace hp := hp.join hpn; have HCX := z0j hcx; have HRC := z0j hrc; clear hpn hcx hrc; simp only [z0f, z0e, z0i] at hp) | (go_at_call 28; (with_reducible refine (zfA vw nm bs im ea es ec n c2 HC2.out HE2.out HSX.out _ (HA.out.below hp.below)).mono ?_); rintro e w1 ⟨rfl, hb⟩; replace hp := hp.call hb; clear hb) | (go_at_call 28; (with_reducible refine (zfA vw nm cn ix ax ex cx n 140 (by decide) (HE3.out _ _) (HSC.out _ _) _ (HRC.out.keptS.at hp (fun p hm => by simp [hm]))).mono ?_); rintro e w1 ⟨rfl, hb⟩; replace hp := hp.call hb; clear hb) | ((first | ((refine zi _ rfl ?_); refine lZ hp rfl (by with_reducible first | exact zaR | exact Zt) ?_; clear hp; intro b w1 hp) | ((refine zd _ _ rfl ?_); first | refine lA hp rfl (za rfl) zbd zK ?_) | ((refine zg _ _ _ rfl ?_); (first | refine sA hp rfl (za rfl) (za rfl) zbd zK ?_); clear hp; intro w1 hp; simp only [spl, z0a, z0b] at hp)); simp only [zc, zb, z0b, z0a]))
    refine zf _ (zt.all hp.drew) [] [(0, false), (1, true), (2, false), (3, true), (4, true), (5, true), (6, true), (7, true), (8, true), (9, true), (10, true), (11, true), (13, true), (12, false), (14, false), (15, true), (16, true), (17, true), (18, true), (19, true), (20, true), (21, true), (22, true), (23, true), (24, true), (25, true), (26, true), (27, true), (28, true), (29, true), (30, true), (31, false), (32, true), (33, true), (34, true), (35, false)] (by kernel_rfl) (by kernel_rfl) rfl (by kernel_rfl) (fun _ _ d _ _ h => by cases d <;> exact h) ?_
    replace hp := hp.drew
    repeat' (with_reducible refine zq ?_); first | (with_reducible refine zl ?_) | ((with_reducible refine zw ?_); refine zn rfl ?_; (first | ((with_reducible refine zcQ _ _ rfl ?_); refine tS (by first | exact Zr rfl rfl rfl rfl | exact zbu rfl rfl rfl rfl) ?_) | ((with_reducible refine zH _ rfl ?_); refine tM rfl ?_) | ((with_reducible refine zI _ _ rfl ?_); first | refine tA rfl (za rfl) (by with_reducible first | exact zbf) zK ?_ | refine tO rfl (za rfl) zr zK ?_) | refine tG (fun w _ => (by go_simp; try rfl)) ?_); try simp only [zc, zb, zh, ze, z0b, z0a, z0d, z0c, zj, HLE.out, f2, f5, beq_self_eq_true]) | (refine zv rfl (fun K hK => ?_); go_wp2_with (first | (go_at_call 30; (with_reducible refine (zfd _).mono ?_); rintro e w1 ⟨rfl, hb⟩; replace hp := hp.call hb; clear hb) | (go_at_call 31; (with_reducible refine (zdR _).mono ?_); rintro e w1 ⟨rfl, hb⟩; replace hp := hp.call hb; clear hb) | (go_at_call 18; (with_reducible refine (zcl vw nm bs im ea es ec true HOK.out HSX.out _ (HA.out.below hp.below)).mono ?_); rintro e w1 ⟨rfl, hb⟩; replace hp := hp.call hb; clear hb; simp only [if_true]) | (go_at_call 18; (with_reducible refine (zcl vw nm cn ix ax ex cx true (HOX.out _ _) (HSC.out _ _) _ (HRC.out.keptS.at hp (fun p hm => by simp [hm]))).mono ?_); rintro e w1 ⟨rfl, hb⟩; replace hp := hp.call hb; clear hb; simp only [if_true]) | go_skip); (refine hK.out _ _ (.inr (zex hp)) ?_); clear hK K; try simp only [zc, zb, zh, ze, z0b, z0a, z0d, z0c, zj, HLE.out, f2, f5, beq_self_eq_true])
    go_wp2_with (first | fail)
    go_ret
    exact ⟨rfl, hp.below⟩
   subst z2
   obtain ⟨_, k2, k3⟩ := zej HE2.out
   have k3' : n ≤ bs + es.length := k3
   by_cases hnc : n < cn
   ·have f3 : decide (n < cn) = true := by simpa using hnc
    have HE3 : Hid (∀ (ax : Option Addr) (cx : Nat), zbS ⟨vw, nm, cn, ix, ax, ex, cx⟩ n = 140) := z0j (fun ax cx => by rw [hce, if_pos (.inl hnc)])
    clear hnc hce hxl hex hgl hgb hcb hfc hsome hsi hss hmh hix hsl hsb hr1 g1 g2 g3 k2 k3 k3'
    go_wp2_with (first | (go_at_call 29; (with_reducible refine (zc2 odX oaX osX ocX nxX t0X t1X t2X t3X faX fsX fcX raX rsX rcX HPB.out ss HPS.out mh HMS.out _ (HKX.out.at hp (fun p hm => by simp [hm]))).mono ?_); rintro e w1 ⟨ah, ch, RP, rfl, hrp, hpn⟩; replace hp := hp.join hpn; have HRP := z0j hrp; clear hpn hrp; simp only [z0f, z0e, z0i] at hp) | ((refine z8 _ _ _ rfl ?_); refine Zs 57 9 5 _ rfl wy Tryz.underlying57 Tryz.underlying5 Tryz.underlying9 ah mh ch (za rfl) (nI ss) HNI.out (by rw [zbG]; exact HRP.out.keptS.at hp (by intro p hp2; simp [hp2])) ?_; rw [HIX.out]; simp only [zc, zb, z0b, z0a]) | (go_at_call 16; (with_reducible refine (zdF vw nm bs im ea es _ ec rfl 4 0 0 cn ix 0 0 0 0 0 0 0 0 0 0 0 none [] 0 0 rfl vw nm cn ix ex _ rfl ea ec HFY.out HF1.out HF2.out (by decide) (by decide) HF3.out _ (HA.out.below hp.below) (zm.nil _ _)).mono ?_); rintro e w1 ⟨ax, cx, RC, rfl, hcx, hrc, hpn⟩; replace hp := hp.join hpn; have HCX := z0j hcx; have HRC := z0j hrc; clear hpn hcx hrc; simp only [z0f, z0e, z0i] at hp) | (go_at_call 28; (with_reducible refine (zfB vw nm bs im ea es ec n s2 HS2.out HE2.out HSX.out HEC.out _ (HA.out.below hp.below)).mono ?_); rintro e w1 ⟨odZ, oaZ, osZ, ocZ, nxZ, t0Z, t1Z, t2Z, t3Z, faZ, fsZ, fcZ, raZ, rsZ, rcZ, RZ, rfl, hyZ, hkZ, hpZ⟩; replace hp := hp.join hpZ; have HYZ := z0j hyZ; have HKZ := z0j hkZ; clear hpZ hyZ hkZ; simp only [z0f, z0e, z0i] at hp) | (go_at_call 28; (with_reducible refine (zfA vw nm cn ix ax ex cx n 140 (by decide) (HE3.out _ _) (HSC.out _ _) _ (HRC.out.keptS.at hp (fun p hm => by simp [hm]))).mono ?_); rintro e w1 ⟨rfl, hb⟩; replace hp := hp.call hb; clear hb) | ((first | ((refine zi _ rfl ?_); refine lZ hp rfl (by with_reducible first | exact zaR | exact Zt) ?_; clear hp; intro b w1 hp) | ((refine zd _ _ rfl ?_); first | refine lA hp rfl (za rfl) zbd zK ?_) | ((refine zg _ _ _ rfl ?_); (first | refine sA hp rfl (za rfl) (za rfl) zbd zK ?_); clear hp; intro w1 hp; simp only [spl, z0a, z0b] at hp)); simp only [zc, zb, z0b, z0a]))
    refine zf _ (zt.all hp.drew) [] [(0, false), (1, true), (2, false), (3, true), (4, true), (5, true), (6, true), (7, true), (8, true), (9, true), (10, true), (11, true), (13, true), (12, false), (14, false), (15, true), (16, true), (17, true), (18, true), (19, true), (20, true), (21, true), (22, true), (23, true), (24, true), (25, true), (26, true), (27, true), (28, true), (29, true), (30, true), (31, false), (32, true), (33, true), (34, true), (35, false)] (by kernel_rfl) (by kernel_rfl) rfl (by kernel_rfl) (fun _ _ d _ _ h => by cases d <;> exact h) ?_
    replace hp := hp.drew
    repeat' (with_reducible refine zq ?_); first | (with_reducible refine zl ?_) | ((with_reducible refine zw ?_); refine zn rfl ?_; (first | ((with_reducible refine zcQ _ _ rfl ?_); refine tS (by first | exact Zr rfl rfl rfl rfl | exact zbu rfl rfl rfl rfl) ?_) | ((with_reducible refine zH _ rfl ?_); refine tM rfl ?_) | ((with_reducible refine zI _ _ rfl ?_); first | refine tA rfl (za rfl) (by with_reducible first | exact zbf) zK ?_ | refine tO rfl (za rfl) zr zK ?_) | refine tG (fun w _ => (by go_simp; try rfl)) ?_); try simp only [zc, zb, zh, ze, z0b, z0a, z0d, z0c, zj, HLE.out, f3, beq_self_eq_true]) | (refine zv rfl (fun K hK => ?_); go_wp2_with (first | (go_at_call 30; (with_reducible refine (zfd _).mono ?_); rintro e w1 ⟨rfl, hb⟩; replace hp := hp.call hb; clear hb) | (go_at_call 31; (with_reducible refine (zdR _).mono ?_); rintro e w1 ⟨rfl, hb⟩; replace hp := hp.call hb; clear hb) | (go_at_call 18; (with_reducible refine (zcl vw nm bs im ea es ec true HOK.out HSX.out _ (HA.out.below hp.below)).mono ?_); rintro e w1 ⟨rfl, hb⟩; replace hp := hp.call hb; clear hb; simp only [if_true]) | (go_at_call 18; (with_reducible refine (zcl vw nm cn ix ax ex cx true (HOX.out _ _) (HSC.out _ _) _ (HRC.out.keptS.at hp (fun p hm => by simp [hm]))).mono ?_); rintro e w1 ⟨rfl, hb⟩; replace hp := hp.call hb; clear hb; simp only [if_true]) | go_skip); (refine hK.out _ _ (.inr (zex hp)) ?_); clear hK K; try simp only [zc, zb, zh, ze, z0b, z0a, z0d, z0c, zj, HLE.out, f3, beq_self_eq_true])
    go_wp2_with (first | fail)
    go_ret
    exact ⟨rfl, hp.below⟩
   ·have f3 : decide (n < cn) = false := by simpa using hnc
    have HE3 : Hid (∀ (ax : Option Addr) (cx : Nat), zbS ⟨vw, nm, cn, ix, ax, ex, cx⟩ n = 0) := z0j (fun ax cx => by rw [hce, if_neg (by omega)])
    obtain ⟨s3, hs3⟩ : ∃ s, stC (zkT ⟨vw, nm, bs, im, ea, es, ec⟩ cn ix) n = s := ⟨_, rfl⟩
    have hst := zmz (n := n) g1 g2 HO.out hsi (by omega)
    rw [hs3, HS2.out] at hst
    have HS3 : Hid (∀ (ax : Option Addr) (cx : Nat), stC ⟨vw, nm, cn, ix, ax, ex, cx⟩ n = s3) := z0j (fun ax cx => by rw [← hex]; exact hs3)
    have hr2 : StR s2 := by rw [← HS2.out]; exact zfy g1 n
    have HSZ : Hid (∀ y : Sv, y.Sm s2 → y.Small) := z0j (fun y h2 => hr2.small.sm h2.symm)
    have HAZ : Hid (∀ y : Sv, y.Sm s2 → ∀ z : Sv, z.Sm s3 → y.Sm z) := z0j (fun y h2 z h3 => (h2.trans hst.symm).trans h3.symm)
    clear hs3 hst hr2 hnc hce hxl hex hgl hgb hcb hfc hsome hsi hss hmh hix hsl hsb hr1 g1 g2 g3 k2 k3 k3'
    go_wp2_with (first | (go_at_call 29; (with_reducible refine (zc2 odX oaX osX ocX nxX t0X t1X t2X t3X faX fsX fcX raX rsX rcX HPB.out ss HPS.out mh HMS.out _ (HKX.out.at hp (fun p hm => by simp [hm]))).mono ?_); rintro e w1 ⟨ah, ch, RP, rfl, hrp, hpn⟩; replace hp := hp.join hpn; have HRP := z0j hrp; clear hpn hrp; simp only [z0f, z0e, z0i] at hp) | ((refine z8 _ _ _ rfl ?_); refine Zs 57 9 5 _ rfl wy Tryz.underlying57 Tryz.underlying5 Tryz.underlying9 ah mh ch (za rfl) (nI ss) HNI.out (by rw [zbG]; exact HRP.out.keptS.at hp (by intro p hp2; simp [hp2])) ?_; rw [HIX.out]; simp only [zc, zb, z0b, z0a]) | (go_at_call 16; (with_reducible refine (zdF vw nm bs im ea es _ ec rfl 4 0 0 cn ix 0 0 0 0 0 0 0 0 0 0 0 none [] 0 0 rfl vw nm cn ix ex _ rfl ea ec HFY.out HF1.out HF2.out (by decide) (by decide) HF3.out _ (HA.out.below hp.below) (zm.nil _ _)).mono ?_); rintro e w1 ⟨ax, cx, RC, rfl, hcx, hrc, hpn⟩; replace hp := hp.join hpn; have HCX := z0j hcx; have HRC := z0j hrc; clear hpn hcx hrc; simp only [z0f, z0e, z0i] at hp) | (go_at_call 28; (with_reducible refine (zfB vw nm bs im ea es ec n s2 HS2.out HE2.out HSX.out HEC.out _ (HA.out.below hp.below)).mono ?_); rintro e w1 ⟨odZ, oaZ, osZ, ocZ, nxZ, t0Z, t1Z, t2Z, t3Z, faZ, fsZ, fcZ, raZ, rsZ, rcZ, RZ, rfl, hyZ, hkZ, hpZ⟩; replace hp := hp.join hpZ; have HYZ := z0j hyZ; have HKZ := z0j hkZ; clear hpZ hyZ hkZ; simp only [z0f, z0e, z0i] at hp) | (go_at_call 28; (with_reducible refine (zfB vw nm cn ix ax ex cx n s3 (HS3.out _ _) (HE3.out _ _) (HSC.out _ _) HCX.out _ (HRC.out.keptS.at hp (fun p hm => by simp [hm]))).mono ?_); rintro e w1 ⟨odA, oaA, osA, ocA, nxA, t0A, t1A, t2A, t3A, faA, fsA, fcA, raA, rsA, rcA, RA, rfl, hyA, hkA, hpA⟩; replace hp := hp.join hpA; have HYA := z0j hyA; have HKA := z0j hkA; clear hpA hyA hkA; simp only [z0f, z0e, z0i] at hp) | ((first | ((refine zi _ rfl ?_); refine lZ hp rfl (by with_reducible first | exact zaR | exact Zt) ?_; clear hp; intro b w1 hp) | ((refine zd _ _ rfl ?_); first | refine lA hp rfl (za rfl) zbd zK ?_) | ((refine zg _ _ _ rfl ?_); (first | refine sA hp rfl (za rfl) (za rfl) zbd zK ?_); clear hp; intro w1 hp; simp only [spl, z0a, z0b] at hp)); simp only [zc, zb, z0b, z0a]))
    refine zf _ (zt.all hp.drew) [] [(0, false), (1, true), (2, false), (3, true), (4, true), (5, true), (6, true), (7, true), (8, true), (9, true), (10, true), (11, true), (13, true), (12, false), (14, false), (15, true), (16, true), (17, true), (18, true), (19, true), (20, true), (21, true), (22, true), (23, true), (24, true), (25, true), (26, true), (27, true), (28, true), (29, true), (30, true), (31, false), (32, true), (33, true), (34, true), (35, false)] (by kernel_rfl) (by kernel_rfl) rfl (by kernel_rfl) (fun _ _ d _ _ h => by cases d <;> exact h) ?_
    replace hp := hp.drew
    repeat' (with_reducible refine zq ?_); first | (with_reducible refine zl ?_) | ((with_reducible refine zw ?_); refine zn rfl ?_; (first | ((with_reducible refine zH _ rfl ?_); refine tM rfl ?_) | ((with_reducible refine zI _ _ rfl ?_); first | refine tA rfl (za rfl) (by with_reducible first | exact zbf | exact zap) zK ?_ | refine tO rfl (za rfl) zr zK ?_) | refine tG (fun w _ => (by go_simp; try rfl)) ?_); try simp only [zc, zb, zh, ze, z0b, z0a, z0d, z0c, zj, HLE.out, f3, beq_self_eq_true]) | (refine zv rfl (fun K hK => ?_); go_wp2_with (first | (go_at_call 30; (with_reducible refine (zfd _).mono ?_); rintro e w1 ⟨rfl, hb⟩; replace hp := hp.call hb; clear hb) | (go_at_call 31; (with_reducible refine (zdR _).mono ?_); rintro e w1 ⟨rfl, hb⟩; replace hp := hp.call hb; clear hb) | (go_at_call 18; (with_reducible refine (zcl vw nm bs im ea es ec true HOK.out HSX.out _ (HA.out.below hp.below)).mono ?_); rintro e w1 ⟨rfl, hb⟩; replace hp := hp.call hb; clear hb; simp only [if_true]) | (go_at_call 18; (with_reducible refine (zcl vw nm cn ix ax ex cx true (HOX.out _ _) (HSC.out _ _) _ (HRC.out.keptS.at hp (fun p hm => by simp [hm]))).mono ?_); rintro e w1 ⟨rfl, hb⟩; replace hp := hp.call hb; clear hb; simp only [if_true]) | (go_at_call 26; (with_reducible refine (zsh odZ oaZ osZ ocZ nxZ t0Z t1Z t2Z t3Z faZ fsZ fcZ raZ rsZ rcZ odA oaA osA ocA nxA t0A t1A t2A t3A faA fsA fcA raA rsA rcA (HSZ.out _ HYZ.out) (HAZ.out _ HYZ.out _ HYA.out) _ (HKZ.out.at hp (fun p hm => by simp [hm])) (HKA.out.at hp (fun p hm => by simp [hm]))).mono ?_); rintro e w1 ⟨rfl, hb⟩; replace hp := hp.call hb; clear hb)); (refine hK.out _ _ (.inr (zex hp)) ?_); clear hK K; try simp only [zc, zb, zh, ze, z0b, z0a, z0d, z0c, zj, HLE.out, f3, beq_self_eq_true])
    go_wp2_with (first | fail)
    go_ret
    exact ⟨rfl, hp.below⟩
 ·go_wp2_with (first | go_skip | ((first | ((refine zi _ rfl ?_); refine lZ hp rfl (by with_reducible first | exact zaR | exact Zt) ?_; clear hp; intro b w1 hp) | ((refine zk _ _ rfl ?_); refine lB hp rfl (za rfl) rfl ?_; clear hp; intro b w1 hp) | ((refine zd _ _ rfl ?_); first | refine lO hp rfl (za rfl) zmq zK ?_ | refine lA hp rfl (za rfl) zbd zK ?_) | ((refine zg _ _ _ rfl ?_); (first | refine sO hp rfl (za rfl) zmq zK ?_ | refine sA hp rfl (za rfl) (za rfl) zbd zK ?_ | refine sG hp rfl (za rfl) (za rfl) zbd zK ?_); clear hp; intro w1 hp; simp only [spl, z0a, z0b] at hp) | ((refine zC _ _ _ rfl ?_); refine lS hp rfl (by intro w; go_simp; rfl) ?_; clear hp; intro b w1 hp; simp only [z0g, z0h, Nat.reduceAdd] at hp)); simp only [zc, zb, z0b, z0a]))
  go_ret
  exact ⟨rfl, hp.below⟩
end Go.Proofs.YtaafajaadfgaoaaGreat
