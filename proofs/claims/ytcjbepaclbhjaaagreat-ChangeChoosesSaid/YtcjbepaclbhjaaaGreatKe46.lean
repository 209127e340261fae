/- Parts of the proof. -/
import Derived.Test.YtcjbepaclbhjaaaGreatKe1
import Derived.Test.YtcjbepaclbhjaaaGreatKe45
open List renaming set_cons_zero → zSet, set_cons_succ → sSet
/- The walk of the law ChangeChooses. -/
set_option linter.unusedSimpArgs false
set_option linter.unusedVariables false
namespace Go.Proofs.YtcjbepaclbhjaaaGreat
open Go.RowKit Go.Lib
theorem sameZ_ch (w : World) : Calls Tryz.prog 25 #[.agg #[.int .i64 0, .int .i64 0, .int .i64 0, .int .i64 0, .string ⟨#[]⟩, .int .i64 0, .int .i64 0, .int .i64 0, .int .i64 0, .int .i64 0, .int .i64 0, .int .i64 0, .int .i64 0, .int .i64 0, .int .i64 0, .int .i64 0, .slice none 0 0], .agg #[.int .i64 0, .int .i64 0, .int .i64 0, .int .i64 0, .string ⟨#[]⟩, .int .i64 0, .int .i64 0, .int .i64 0, .int .i64 0, .int .i64 0, .int .i64 0, .int .i64 0, .int .i64 0, .int .i64 0, .int .i64 0, .int .i64 0, .slice none 0 0]] w fun e w' => e = .returned (.bool true) ∧ Below w.heap.size w w' :=
  sameRec15S 0 0 0 0 ⟨#[]⟩ 0 0 0 0 0 0 0 0 0 0 0 none none [] 0 0 (by simp) w (RowIs.nil _ _) (RowIs.nil _ _)
theorem sameA_ch (nv cm : Int) (f : List Env) (a a' : Option Addr) (c c' : Nat) (hl : f.length ≤ 100000) (w : World) (ha : RowIs w a (f.flatMap envL)) (hb : RowIs w a' (f.flatMap envL)) : Calls Tryz.prog 25 #[.agg #[.int .i64 3, .int .i64 nv, .int .i64 cm, .int .i64 0, .string ⟨#[]⟩, .int .i64 0, .int .i64 0, .int .i64 0, .int .i64 0, .int .i64 0, .int .i64 0, .int .i64 0, .int .i64 0, .int .i64 0, .int .i64 0, .int .i64 0, .slice a f.length c], .agg #[.int .i64 3, .int .i64 nv, .int .i64 cm, .int .i64 0, .string ⟨#[]⟩, .int .i64 0, .int .i64 0, .int .i64 0, .int .i64 0, .int .i64 0, .int .i64 0, .int .i64 0, .int .i64 0, .int .i64 0, .int .i64 0, .int .i64 0, .slice a' f.length c']] w fun e w' => e = .returned (.bool true) ∧ Below w.heap.size w w' :=
  sameRec15S 3 nv cm 0 ⟨#[]⟩ 0 0 0 0 0 0 0 0 0 0 0 a a' f c c' hl w ha hb
set_option maxRecDepth 100000 in
set_option maxHeartbeats 16000000 in
theorem law6 (nodes view : Int) (la : Option Addr) (l : List Vt) (lk : Nat) (vw nm bs : Int) (im : ByteArray) (ea : Option Addr) (es : List Env) (ec : Nat) (cm : Int) (w : World) (hl : RowIs w la (l.flatMap vtV)) (hlv : ∀ v ∈ l, v.Is w) (hlc : ∀ v ∈ l, v.es.length ≤ v.c ∧ ∀ e ∈ v.es, I64 e.nu) (hk : RowIs w ea (es.flatMap envL)) :
    Calls Tryz.prog 6 #[.int .i64 nodes, .int .i64 view, .slice la l.length lk, .agg #[.int .i64 vw, .int .i64 nm, .int .i64 bs, .string im, .slice ea es.length ec], .int .i64 cm] w fun e w' => e = .returned (.bool true) ∧ Below w.heap.size w w' := by
  have hp := Hp.start w
  have HKA := Lib.hid hk
  have HL := Lib.hid hl
  have HLV := Lib.hid hlv
  have HLC := Lib.hid hlc
  clear hk hl hlv hlc
  go_enter Tryz.func6, Tryz.ntmps6
  go_wp2_with (first | (go_at_call 7; (with_reducible refine (big7 l la lk vw nm bs im ea es ec _ (HL.out.below hp.below)).mono ?_); rintro e w1 ⟨bb, rfl, hbb, hb⟩; replace hp := hp.call hb; clear hb; cases bb) | go_skip | (first | (refine hA1 ?_; clear hp; intro b w1 hp) | refine hL0 ?_ | (refine hS0 ?_; clear hp; intro w1 hp)))
  · obtain ⟨hl50, hk3, him, hes⟩ := hbb (by first | rfl | trivial)
    have HLN : RowKit.Hid (l.length ≤ 1000) := Lib.hid (by omega)
    have hes2 : ∀ v ∈ l, v.es.length ≤ 100000 := fun v hv => Nat.le_trans (hes v hv) (by decide)
    have HEC : RowKit.Hid (∀ v ∈ l, v.es.length ≤ 100000 ∧ v.es.length ≤ v.c) := Lib.hid (fun v hv => ⟨hes2 v hv, (HLC.out v hv).1⟩)
    have HEI : RowKit.Hid (∀ v ∈ l, v.es.length ≤ 100000 ∧ ∀ e ∈ v.es, I64 e.nu) := Lib.hid (fun v hv => ⟨hes2 v hv, (HLC.out v hv).2⟩)
    have HSM : RowKit.Hid (Kv.Small ⟨vw, nm, bs, im, ea, es, ec⟩) := Lib.hid ⟨by show es.length ≤ 100000; omega, by show im.size ≤ 1000000; omega⟩
    rcases ch_total nodes view l ⟨vw, nm, bs, im, ea, es, ec⟩ cm with hs | ⟨f, s, hs⟩
    · have HS := Lib.hid hs
      clear hbb hes hes2 him hk3 hl50 hs HLC
      go_wp2_with (first | (go_at_call 22; (with_reducible refine (choose22 nodes view la l lk vw nm bs im ea es ec cm HLN.out HEC.out HSM.out _ (HKA.out.below hp.below) (HL.out.below hp.below) (fun y hy => (HLV.out y hy).below hp.below)).mono ?_); rintro e w1 hq; obtain ⟨rfl, hb⟩ := ch_none HS.out hq; replace hp := hp.call hb; clear hb hq) | (go_at_call 24; (with_reducible refine (rchoose24 nodes view la l lk vw nm bs im ea es ec cm HLN.out HEI.out HSM.out _ (HKA.out.below hp.below) (HL.out.below hp.below) (fun y hy => (HLV.out y hy).below hp.below)).mono ?_); rintro e w1 hq; obtain ⟨rfl, hb⟩ := ch_none HS.out hq; replace hp := hp.call hb; clear hb hq) | (go_at_call 23; (with_reducible refine (chooses23 _).mono ?_); rintro e w1 ⟨rfl, hb⟩; replace hp := hp.call hb; clear hb) | (go_at_call 25; (with_reducible refine (sameZ_ch _).mono ?_); rintro e w1 ⟨rfl, hb⟩; replace hp := hp.call hb; clear hb) | go_skip | (first | (refine hA1 ?_; clear hp; intro b w1 hp) | refine hL0 ?_ | (refine hS0 ?_; clear hp; intro w1 hp)))
      go_ret
      exact ⟨rfl, hp.below⟩
    · have HS := Lib.hid hs
      have HFL := Lib.hid (ch_len hs hes2)
      clear hbb hes hes2 him hk3 hl50 hs HLC
      go_wp2_with (first | (go_at_call 22; (with_reducible refine (choose22 nodes view la l lk vw nm bs im ea es ec cm HLN.out HEC.out HSM.out _ (HKA.out.below hp.below) (HL.out.below hp.below) (fun y hy => (HLV.out y hy).below hp.below)).mono ?_); rintro e w1 hq; obtain ⟨a1, c1, R1, rfl, hk, hp2⟩ := ch_some HS.out hq; replace hp := hp.join hp2; have HK1 := Lib.hid hk; clear hq hk hp2; try simp only [List.cons_append, List.nil_append, List.append_assoc] at hp) | (go_at_call 24; (with_reducible refine (rchoose24 nodes view la l lk vw nm bs im ea es ec cm HLN.out HEI.out HSM.out _ (HKA.out.below hp.below) (HL.out.below hp.below) (fun y hy => (HLV.out y hy).below hp.below)).mono ?_); rintro e w1 hq; obtain ⟨a2, c2, R2, rfl, hk, hp2⟩ := ch_some HS.out hq; replace hp := hp.join hp2; have HK2 := Lib.hid hk; clear hq hk hp2; try simp only [List.cons_append, List.nil_append, List.append_assoc] at hp) | (go_at_call 23; (with_reducible refine (chooses23 _).mono ?_); rintro e w1 ⟨rfl, hb⟩; replace hp := hp.call hb; clear hb) | (go_at_call 25; (with_reducible refine (sameA_ch view cm f a1 a2 c1 c2 HFL.out _ (HK1.out.at hp (fun p hm => by simp [hm])) (HK2.out.at hp (fun p hm => by simp [hm]))).mono ?_); rintro e w1 ⟨rfl, hb⟩; replace hp := hp.call hb; clear hb) | go_skip | (first | (refine hA1 ?_; clear hp; intro b w1 hp) | refine hL0 ?_ | (refine hS0 ?_; clear hp; intro w1 hp)))
      go_ret
      exact ⟨rfl, hp.below⟩
  · go_wp2_with (first | go_skip | (first | (refine hA1 ?_; clear hp; intro b w1 hp) | refine hL0 ?_ | (refine hS0 ?_; clear hp; intro w1 hp)))
    go_ret
    exact ⟨rfl, hp.below⟩
end Go.Proofs.YtcjbepaclbhjaaaGreat
