import Derived.Test.YtaafajaadfgaoaaGreatFp2
import Derived.Shelf.SlSortCmp.WholeK
import Derived.Test.YtaafajaadfgaoaaGreatFp0
import Derived.Shelf.SlLaysF0
import Derived.Test.YtaafajaadfgaoaaGreatRows
import Derived.Test.YtaafajaadfgaoaaGreatFp1
import Derived.Shelf.SlSortCmp.NoneTotal
import Derived.Shelf.Abstract
set_option linter.unusedSimpArgs false
set_option linter.unusedVariables false
set_option maxRecDepth 100000
set_option maxHeartbeats 60000000
namespace Go.Proofs.YtaafajaadfgaoaaGreat
open Go.RowKit Go.Lib Go.Shelf Go.Sort
theorem Hp.setCells {B : Nat} {w0 : World} {b : Nat} {t : TypeId} {n : Nat} {L : List Blk} (vs : List Value) : ∀ (w : World) (off : Nat) (l : List Value), Hp B w0 w (⟨b, l, t, n⟩ :: L) →
    Hp B w0 (w.setCells b off vs) (⟨b, spl l off vs, t, n⟩ :: L) := by
  induction vs with
  | nil => intro w off l h; exact h
  | cons v vs ih =>
    intro w off l h
    rw [World.setCells]
    have h1 := h.setCell (i := 0) rfl off v
    exact ih _ _ _ h1
theorem zhp (F G : Array Value) (h : F.size = G.size) : setMany F 0 G.toList = G := by
  refine ext_get! (by simp [h]) fun t ht => ?_
  have ht' : t < G.size := by simpa [h] using ht
  rw [get_setMany _ _ _ t (by omega), if_pos (by simp [ht'])]
  simp [ht']
theorem zgc {α : Type} [Inhabited α] (enc : α → List Value) (k : Nat) (hk : ∀ x, (enc x).length = k) (d : Array α) : (flatK enc k d).toList = d.toList.flatMap enc := by
  have hlen : (d.toList.flatMap enc).length = d.size * k := by rw [ZH enc k hk]; simp
  apply List.ext_getElem?
  intro j
  rcases Nat.lt_or_ge j (d.size * k) with hj | hj
  · have k0 : 0 < k := by
        rcases Nat.eq_zero_or_pos k with h | h; · subst h; simp at hj
        · exact h
    have h1 : j / k < d.size := by rw [Nat.div_lt_iff_lt_mul k0]; exact hj
    have h2 : j % k < k := Nat.mod_lt _ k0
    have e1 : d.toList[j / k]? = some d[j / k]! := by rw [getElem!_pos d _ h1]; simp [h1]
    have e2 : (enc d[j / k]!)[j % k]? = some (enc d[j / k]!)[j % k]! := by
      have h3 : j % k < (enc d[j / k]!).length := by rw [hk]; exact h2
      rw [getElem!_pos (enc d[j / k]!) (j % k) h3]; exact List.getElem?_eq_getElem _
    have := zel enc k hk d.toList (j / k) (j % k) _ _ e1 e2
    rw [Nat.mul_comm, Nat.div_add_mod] at this
    rw [this, ← get_flatK enc k d j hj, getElem!_pos _ j (by simpa using hj)]
    simp [hj]
  · rw [List.getElem?_eq_none (by simpa using hj), List.getElem?_eq_none (by omega)]
theorem Hp.holdsK {α : Type} [Inhabited α] {enc : α → List Value} {k : Nat} (hk : ∀ x, (enc x).length = k) {d : Array α} {B : Nat} {w0 w : World} {b : Nat} {t : TypeId} {n : Nat} {L : List Blk} (hp : Hp B w0 w (⟨b, d.toList.flatMap enc, t, n⟩ :: L)) :
    HoldsK enc k w b 0 d := by
  intro j hj
  have hl : (d.toList.flatMap enc)[j]? = some (id (flatK enc k d)[j]!) := by
    rw [← zgc enc k hk d, getElem!_pos _ j hj]; simp [id]
  rw [Nat.zero_add]
  exact ⟨hp.cell (i := 0) rfl hl, hp.free (i := 0) rfl _⟩
theorem Hp.sorted {α : Type} [Inhabited α] {enc : α → List Value} {k : Nat} (hk : ∀ x, (enc x).length = k) {d d' : Array α} {B : Nat} {w0 w : World} {b : Nat} {t : TypeId} {n m : Nat} {os : Array Obj} {L : List Blk} (hp : Hp B w0 w (⟨b, d.toList.flatMap enc, t, n⟩ :: L)) (hs : d'.size = d.size) :
    Hp B w0 (sortWorldK enc k w b 0 m d' os) (⟨b, d'.toList.flatMap enc, t, n⟩ :: L) := by
  have h1 : Hp B w0 (Sort.ahead w m) (⟨b, d.toList.flatMap enc, t, n⟩ :: L) := hp.drewN m
  have h2 := Hp.holdsK hk h1
  have e : putRowK enc k (Sort.ahead w m) b 0 d' = (Sort.ahead w m).setCells b 0 (d'.toList.flatMap enc) := by
    have h3 := setCells_putRow (Sort.ahead w m) b 0 (flatK enc k d').toList 0 (flatK enc k d) (by simp [hs])
    rw [putRow_self id _ b 0 _ h2, zhp _ _ (by simp [hs]), zgc enc k hk d'] at h3
    exact h3.symm
  have h4 := Hp.setCells (d'.toList.flatMap enc) _ 0 _ h1
  rw [zki _ _ (by rw [ZH enc k hk, ZH enc k hk]; simp [hs]), ← e] at h4
  unfold sortWorldK
  refine h4.call ⟨rfl, rfl, rfl, by simp, fun k hk => ?_⟩
  show (_ ++ os)[k]? = _
  rw [Array.getElem?_append_left hk]
theorem ziC {α : Type} [Inhabited α] {d d' : Array α} (h : PermIn 0 d.size d d') : d'.size = d.size ∧ d'.toList.Perm d.toList := by
  obtain ⟨h1, _, h2⟩ := h
  refine ⟨h1, ?_⟩
  have e1 : d'.extract 0 d.size = d' := by rw [← h1]; simp
  rw [e1] at h2
  simpa using h2
theorem zgJ {α : Type} [Inhabited α] {lt : α → α → Bool} {d : Array α} {n : Nat} (hn : d.size = n) (h : SortedIn lt 0 n d) : d.toList.Pairwise fun x y => lt y x = false := by
  rw [List.pairwise_iff_getElem]
  intro i j hi hj hij
  have := h i j (Nat.zero_le _) hij (by simpa [hn] using hj)
  have hi' : i < d.size := by simpa using hi
  have hj' : j < d.size := by simpa using hj
  rw [getElem!_pos d i hi', getElem!_pos d j hj'] at this
  simpa using this
open Go.Shelf Go.Proofs
def ze3 : Go.Shelf.Ren := ⟨fun | 6 => 144 | 15 => 199 | 14 => 198 | 28 => 222 | 29 => 223 | 20 => 214 | 21 => 215 | 22 => 216 | 23 => 217 | 24 => 218 | 25 => 219 | 26 => 220 | 27 => 221 | 46 => 240 | 47 => 241 | 48 => 242 | 49 => 243 | 50 => 244 | 57 => 262 | n => n, fun | 22 => 45 | 24 => 124 | 25 => 184 | 3 => 3 | 39 => 216 | 0 => 0 | 53 => 244 | 55 => 192 | 4 => 4 | 46 => 238 | 45 => 237 | 50 => 172 | 5 => 5 | 9 => 9 | 66 => 267 | 70 => 190 | 76 => 288 | 77 => 289 | n => n, fun | n => n⟩
theorem zfp : Go.Proofs.SlLaysF0.n6 Tryz.prog ze3 := {
  mixed := by kernel_rfl
  f6 := ⟨Tryz.f144.name, by decide, Tryz.func144.trans (congrArg some (by kernel_rfl))⟩
  f14 := ⟨Tryz.f198.name, by decide, Tryz.func198.trans (congrArg some (by kernel_rfl))⟩
  f15 := Tryz.func199.trans (congrArg some (by kernel_rfl))
  f20 := ⟨Tryz.f214.name, by decide, Tryz.func214.trans (congrArg some (by kernel_rfl))⟩
  f21 := ⟨Tryz.f215.name, by decide, Tryz.func215.trans (congrArg some (by kernel_rfl))⟩
  f22 := ⟨Tryz.f216.name, by decide, Tryz.func216.trans (congrArg some (by kernel_rfl))⟩
  f23 := ⟨Tryz.f217.name, by decide, Tryz.func217.trans (congrArg some (by kernel_rfl))⟩
  f24 := ⟨Tryz.f218.name, by decide, Tryz.func218.trans (congrArg some (by kernel_rfl))⟩
  f25 := ⟨Tryz.f219.name, by decide, Tryz.func219.trans (congrArg some (by kernel_rfl))⟩
  f26 := ⟨Tryz.f220.name, by decide, Tryz.func220.trans (congrArg some (by kernel_rfl))⟩
  f27 := ⟨Tryz.f221.name, by decide, Tryz.func221.trans (congrArg some (by kernel_rfl))⟩
  f28 := Tryz.func222.trans (congrArg some (by kernel_rfl))
  f29 := Tryz.func223.trans (congrArg some (by kernel_rfl))
  f46 := ⟨Tryz.f240.name, by decide, Tryz.func240.trans (congrArg some (by kernel_rfl))⟩
  f47 := Tryz.func241.trans (congrArg some (by kernel_rfl))
  f48 := Tryz.func242.trans (congrArg some (by kernel_rfl))
  f49 := ⟨Tryz.f243.name, by decide, Tryz.func243.trans (congrArg some (by kernel_rfl))⟩
  f50 := ⟨Tryz.f244.name, by decide, Tryz.func244.trans (congrArg some (by kernel_rfl))⟩
  f57 := ⟨Tryz.f262.name, by decide, Tryz.func262.trans (congrArg some (by kernel_rfl))⟩
  t0 := Tryz.underlying0
  a0 := Tryz.isAgg0
  z0 := Tryz.sizeOf0
  v0 := Tryz.zeroValue0
  t3 := Tryz.underlying3
  a3 := Tryz.isAgg3
  z3 := Tryz.sizeOf3
  v3 := Tryz.zeroValue3
  t4 := Tryz.underlying4
  a4 := Tryz.isAgg4
  z4 := Tryz.sizeOf4
  v4 := Tryz.zeroValue4
  t5 := Tryz.underlying5
  a5 := Tryz.isAgg5
  z5 := Tryz.sizeOf5
  v5 := Tryz.zeroValue5
  t9 := Tryz.underlying9
  a9 := Tryz.isAgg9
  z9 := Tryz.sizeOf9
  v9 := Tryz.zeroValue9
  t22 := Tryz.underlying45
  a22 := Tryz.isAgg45
  z22 := Tryz.sizeOf45
  v22 := Tryz.zeroValue45
  t25 := Tryz.underlying184
  a25 := Tryz.isAgg184
  z25 := Tryz.sizeOf184
  v25 := Tryz.zeroValue184
  t39 := Tryz.underlying216
  a39 := Tryz.isAgg216
  z39 := Tryz.sizeOf216
  v39 := Tryz.zeroValue216
  t45 := Tryz.underlying237
  a45 := Tryz.isAgg237
  z45 := Tryz.sizeOf237
  v45 := Tryz.zeroValue237
  t46 := Tryz.underlying238
  a46 := Tryz.isAgg238
  z46 := Tryz.sizeOf238
  v46 := Tryz.zeroValue238
  t50 := Tryz.underlying172
  a50 := Tryz.isAgg172
  z50 := Tryz.sizeOf172
  v50 := Tryz.zeroValue172
  t53 := Tryz.underlying244
  a53 := Tryz.isAgg244
  z53 := Tryz.sizeOf244
  v53 := Tryz.zeroValue244
  t55 := Tryz.underlying192
  a55 := Tryz.isAgg192
  z55 := Tryz.sizeOf192
  v55 := Tryz.zeroValue192
  t66 := Tryz.underlying267
  a66 := Tryz.isAgg267
  z66 := Tryz.sizeOf267
  v66 := Tryz.zeroValue267
  t70 := Tryz.underlying190
  a70 := Tryz.isAgg190
  z70 := Tryz.sizeOf190
  v70 := Tryz.zeroValue190
  t76 := Tryz.underlying288
  a76 := Tryz.isAgg288
  z76 := Tryz.sizeOf288
  v76 := Tryz.zeroValue288
  t77 := Tryz.underlying289
  a77 := Tryz.isAgg289
  z77 := Tryz.sizeOf289
  v77 := Tryz.zeroValue289 }
open Go.RowKit Go.Lib Go.Shelf Go.Sort
instance : Inhabited Bl := ⟨⟨0, 0⟩⟩
def znj (x y : Bl) : Int := zgQ x.p y.p
theorem zn0 (x y : Bl) : ltOf znj x y = decide (x.p < y.p) := by unfold ltOf znj; simp only [zmp]
theorem zoo : SWO (ltOf znj) where
  irrefl x := by rw [zn0]; simp
  trans x y z h1 h2 := by rw [zn0] at *; simp at *; omega
  ntrans x y z h1 h2 := by rw [zn0] at *; simp at *; omega
theorem zni (x : Bl) (v : Value) (hv : v ∈ blV x) : v.oneCell' = true := by simp [blV] at hv; rcases hv with rfl | rfl <;> rfl
def zfv (g : Nat) : Prop := ∀ (x y : Bl) (W : World), Calls Tryz.prog g #[.agg #[.int .i64 x.p, .int .i64 x.o], .agg #[.int .i64 y.p, .int .i64 y.o]] W fun e w' => e = .returned (.int .i64 (zgQ x.p y.p)) ∧ ∃ q os', w' = Sort.grow (W.drewN q) os'
def zn7 (w : World) (B : Nat) (w0 : World) (L : List Blk) (blk t n : Nat) (d : List Bl) (e : Ending) (w' : World) : Prop :=
  e = .returned (.tuple #[]) ∧ ∃ s : List Bl, s.Perm d ∧ s.Pairwise (fun x y => x.p ≤ y.p) ∧ Hp B w0 w' (⟨blk, s.flatMap blV, t, n⟩ :: L)
theorem zmV (g : Nat) (eg : ∀ args w, (callFunc g args).run Tryz.prog w = .ok (.enter g args) w) (hg : zfv g) (d : List Bl) (cap : Nat) {B : Nat} {w0 w : World} {blk t n : Nat} {L : List Blk} (hp : Hp B w0 w (⟨blk, d.flatMap blV, t, n⟩ :: L)) (hsz : d.length ≤ 5000) :
    Calls Tryz.prog 144 #[.slice (some ⟨blk, 0, none⟩) d.length cap, .func (.func g) #[] #[]] w (zn7 w B w0 L blk t n d) := by
  have hH : HoldsK blV 2 w blk 0 d.toArray := Hp.holdsK (enc := blV) zbv (d := d.toArray) hp
  have hcm : CmpLays Tryz.prog g #[] blV 2 znj blk 0 d.toArray.size w := fun m os dk _ x y => hg x y _
  have hcon := AnyQ.slices_SortFunc zfp 2 Tryz.isAgg124 Tryz.sizeOf124 blV zbv zni znj zoo g #[] blk 0 cap d.toArray w eg hcm hH (hp.lt (p := ⟨blk, d.flatMap blV, t, n⟩) (by simp)).2 (by simp; omega)
  change Calls Tryz.prog 144 _ _ _ at hcon
  rw [List.size_toArray] at hcon
  refine hcon.mono ?_
  rintro e w' ⟨rfl, d', m, os, h1, h2, rfl⟩
  have h3 := ziC (d := d.toArray) (d' := d') (by rw [List.size_toArray]; exact h1)
  refine ⟨rfl, d'.toList, by simpa using h3.2, ?_, Hp.sorted (enc := blV) zbv (d := d.toArray) hp h3.1⟩
  have h4 := zgJ (by simpa using h3.1) h2
  refine h4.imp (fun {a b} h => ?_)
  rw [zn0] at h
  simp at h
  exact h
theorem zgI (p : Option Addr) (cap : Nat) (fv : Value) (w : World) : Calls Tryz.prog 144 #[.slice p 0 cap, fv] w fun e w' => e = .returned (.tuple #[]) ∧ w' = w := by
  have hcon := AnyF.slices_SortFunc_none zfp p cap fv w
  change Calls Tryz.prog 144 _ _ _ at hcon
  exact hcon
def zi1 (B : Nat) (w0 : World) (v : Value) (n : Nat) (d : List Bl) (M : List Blk) (e : Ending) (w' : World) : Prop :=
  e = .returned (.tuple #[]) ∧ ∃ (s : List Bl) (R : List Blk), s.Perm d ∧ s.Pairwise (fun x y => x.p ≤ y.p) ∧ zJ 124 2 v n (s.flatMap blV) R ∧ Hp B w0 w' (R ++ M)
theorem zlF (g : Nat) (eg : ∀ args w, (callFunc g args).run Tryz.prog w = .ok (.enter g args) w) (hg : zfv g) (d : List Bl) {v : Value} {R M : List Blk} (hr : zJ 124 2 v d.length (d.flatMap blV) R) {B : Nat} {w0 w : World} (hp : Hp B w0 w (R ++ M)) (hsz : d.length ≤ 5000) :
    Calls Tryz.prog 144 #[v, .func (.func g) #[] #[]] w (zi1 B w0 v d.length d M) := by
  obtain ⟨hl, ⟨h0, hv, hx, hR⟩ | ⟨b, cap, hv, h1, h2, hR⟩⟩ := hr
  · subst hv; subst hR
    have hd : d = [] := List.eq_nil_of_length_eq_zero h0
    subst hd
    refine (zgI none 0 _ w).mono ?_
    rintro e w' ⟨rfl, rfl⟩
    exact ⟨rfl, [], [], List.Perm.refl _, List.Pairwise.nil, zJ.nil _ _, hp⟩
  · subst hv; subst hR
    refine (zmV g eg hg d cap hp hsz).mono ?_
    rintro e w' ⟨rfl, s, h3, h4, hp'⟩
    exact ⟨rfl, s, _, h3, h4, ⟨by rw [ZH blV 2 zbv, h3.length_eq], .inr ⟨b, cap, rfl, h1, h2, rfl⟩⟩, hp'⟩
open Go.RowKit
open Go.RowKit
theorem Hp.less {B : Nat} {w0 w : World} {b n : Nat} {l1 l2 : List Value} {t : TypeId} {L : List Blk} (h : Hp B w0 w (⟨b, l1 ++ l2, t, n⟩ :: L)) : Hp B w0 w (⟨b, l1, t, n⟩ :: L) := by
  refine ⟨h.below, h.size, by simpa using h.nodup, fun p hp => ?_⟩
  rcases List.mem_cons.1 hp with rfl | hp
  · obtain ⟨h1, c, h2, h3, h4⟩ := h.own _ (List.mem_cons_self ..)
    refine ⟨h1, c, h2, h3, ?_⟩
    simp only at h4 ⊢
    have := congrArg (List.take l1.length) h4
    rw [List.take_take, List.length_append, Nat.min_eq_left (by omega), List.take_append_of_le_length (Nat.le_refl _), List.take_length] at this
    exact this
  · exact h.own p (List.mem_cons_of_mem _ hp)
theorem zJ.cons {e : TypeId} {c n : Nat} {v : Value} {xs : List Value} {R : List Blk} (h : zJ e c v (n + 1) xs R) : ∃ g cap, v = .slice (some ⟨g, 0, none⟩) (n + 1) cap ∧ n + 1 ≤ cap ∧ cap ≤ maxLen ∧ R = [⟨g, xs, e, cap * c⟩] := by
  obtain ⟨_, ⟨h0, _⟩ | h⟩ := h
  · omega
  · exact h
def LtB (a b : Bl) : Prop := a.o < b.o ∨ (a.o = b.o ∧ a.p < b.p)
theorem LtB.ntrans {a b c : Bl} (h1 : ¬ LtB b a) (h2 : ¬ LtB c b) : ¬ LtB c a := by unfold LtB at *; omega
def gB (l : List Bl) (k : Nat) : Bl := l.getD k ⟨0, 0⟩
def zna (l : List Bl) (n i0 : Nat) : Prop := ∀ k c, i0 ≤ k → (c = 2 * k + 1 ∨ c = 2 * k + 2) → c < n → ¬ LtB (gB l c) (gB l k)
def zky (l : List Bl) (n i0 j : Nat) : Prop :=
  (∀ k c, i0 ≤ k → k ≠ j → (c = 2 * k + 1 ∨ c = 2 * k + 2) → c < n → ¬ LtB (gB l c) (gB l k)) ∧
  (∀ p c, i0 ≤ p → (j = 2 * p + 1 ∨ j = 2 * p + 2) → (c = 2 * j + 1 ∨ c = 2 * j + 2) → c < n → ¬ LtB (gB l c) (gB l p))
theorem zky.start {l : List Bl} {n i0 : Nat} (h : zna l n (i0 + 1)) : zky l n i0 i0 :=
  ⟨fun k c hk hne hc hn => h k c (by omega) hc hn, fun p c hp hj _ _ => by omega⟩
structure zm7 (l l' : List Bl) (n i0 j : Nat) : Prop where
  perm : l'.Perm l
  same : ∀ q, n ≤ q → gB l' q = gB l q
  heap : zna l n (i0 + 1) → zky l' n i0 j
theorem zm7.start (l : List Bl) (n i0 : Nat) : zm7 l l n i0 i0 := ⟨List.Perm.refl _, fun _ _ => rfl, zky.start⟩
open Go.RowKit Go.Shelf
open Go.RowKit Go.Shelf
def hv (p o : Int) : Nat → List Bl
  | 0 => []
  | n + 1 => hv p o n ++ [⟨p + pw (o - n - 1), o - n - 1⟩]
theorem zl0 (p o : Int) : ∀ n, (hv p o n).length = n
  | 0 => rfl
  | n + 1 => by rw [hv, List.length_append, zl0 p o n]; rfl
structure ziX (want : Int) (fs : List Bl) (b : Bl) : Prop where
  mem : b ∈ fs
  great : want ≤ b.o
  least : ∀ y ∈ fs, want ≤ y.o → ¬ LtB y b
structure znd (want : Int) (fs : List Bl) (b : Bl) (s : List Bl) : Prop where
  perm : (b :: s).Perm (fs ++ hv b.p b.o (b.o - want).toNat)
  sort : s.Pairwise fun x y => x.p ≤ y.p
def zhG (want : Int) (l : List Bl) : List Bl := l.filter fun b => decide (want ≤ b.o)
def zl9 (want : Int) (l : List Bl) : List Bl := l.filter fun b => !decide (want ≤ b.o)
theorem zmv (want : Int) (l : List Bl) : (zhG want l ++ zl9 want l).Perm l := List.filter_append_perm _ l
def zcw (want : Int) (fs : List Bl) (b : Bl) (i : Nat) (l : List Bl) : Prop := (b :: l).Perm (zhG want fs ++ hv b.p b.o i)
theorem zcw.start {want : Int} {fs l l' : List Bl} (hp : l.Perm (zhG want fs)) (h : (l' ++ [gB l 0]).Perm l) : zcw want fs (gB l 0) 0 l' := by
  unfold zcw
  rw [hv, List.append_nil]
  exact (List.perm_append_comm (l₁ := [gB l 0])).trans (h.trans hp)
theorem zcw.step {want : Int} {fs l l' : List Bl} {b : Bl} {i : Nat} (h : zcw want fs b i l) (hp : l'.Perm (l ++ [⟨b.p + pw (b.o - i - 1), b.o - i - 1⟩])) : zcw want fs b (i + 1) l' := by
  unfold zcw at *
  rw [hv, ← List.append_assoc]
  exact (hp.cons b).trans (h.append_right [_])
theorem zcw.len {want : Int} {fs l : List Bl} {b : Bl} {i : Nat} (h : zcw want fs b i l) : l.length + 1 = (zhG want fs).length + i := by
  have := h.length_eq
  rw [List.length_append, zl0, List.length_cons] at this
  exact this
theorem zcw.done {want : Int} {fs l s : List Bl} {b : Bl} (h : zcw want fs b (b.o - want).toNat l) (hs : s.Perm (l ++ zl9 want fs)) (hso : s.Pairwise fun x y => x.p ≤ y.p) : znd want fs b s := by
  refine ⟨?_, hso⟩
  refine (hs.cons b).trans ?_
  rw [← List.cons_append]
  refine (h.append_right _).trans ?_
  rw [List.append_assoc]
  refine (List.perm_append_comm.append_left _).trans ?_
  rw [← List.append_assoc]
  exact (zmv want fs).append_right _
open Go.RowKit Go.Lib Go.Shelf Go.Sort
theorem zE.three {B : Nat} {w0 w : World} {L : List Blk} (h : Hp B w0 w L) {i j k : Nat} {p q r : Blk} (hi : L[i]? = some p) (hj : L[j]? = some q) (hk : L[k]? = some r) : zE B w0 [p, q, r] w := ⟨L, h, fun s hs => by
  rcases List.mem_cons.1 hs with rfl | hs
  · exact Hp.mem hi
  · rcases List.mem_cons.1 hs with rfl | hs
    · exact Hp.mem hj
    · rw [List.mem_singleton.1 hs]; exact Hp.mem hk⟩
open Go.RowKit
theorem Hp.sub {B : Nat} {w0 w : World} {L L' : List Blk} (hp : Hp B w0 w L) (h : L'.Sublist L) : Hp B w0 w L' :=
  ⟨hp.below, hp.size, (h.map _).nodup hp.nodup, fun p hpL => hp.own p (h.subset hpL)⟩
open Go.RowKit
def zkx (w : World) (b : Nat) (q r : Int) : Prop := ∀ (j : Nat) v, [Value.int .i64 q, .int .i64 r][j]? = some v → w.cell? ⟨b, 0 + j, none⟩ = some v
theorem zkx.below {w w' : World} {b : Nat} {q r : Int} (h : zkx w b q r) (hb : b < w.heap.size) (hw : Below w.heap.size w w') : zkx w' b q r := fun j v hj => (hw.cell (p := ⟨b, 0 + j, none⟩) hb).trans (h j v hj)
def zlN (l : List Bl) (v : Bl) (r : Int) : Prop := (r = -1 ∧ v ∉ l) ∨ ∃ j : Nat, r = j ∧ l[j]? = some v
def zeX (l : List Bl) : Prop := l.Pairwise fun x y => x.p + pw x.o ≤ y.p
theorem zcu.disj {od : Int} {l : List Bl} (h : zcu od l) : zeX l := by
 unfold zeX
 rw [List.pairwise_iff_getElem]
 intro i j hi hj hij
 exact ((h j _ (List.getElem?_eq_getElem hj)).2 i _ hij (List.getElem?_eq_getElem hi)).1
theorem zeX.sorted {l : List Bl} (h : zeX l) : zgV l := by
 intro i j x y hij hx hy
 unfold zeX at h
 rw [List.pairwise_iff_getElem] at h
 obtain ⟨hi, rfl⟩ := List.getElem?_eq_some_iff.1 hx
 obtain ⟨hj, rfl⟩ := List.getElem?_eq_some_iff.1 hy
 have := h i j hi hj hij
 have := zP l[i].o
 omega
theorem zeX.apart {l : List Bl} (h : zeX l) {x y : Bl} (hx : x ∈ l) (hy : y ∈ l) (hne : x ≠ y) : ¬ zbW x y := by
 obtain ⟨i, hi, rfl⟩ := List.getElem_of_mem hx
 obtain ⟨j, hj, rfl⟩ := List.getElem_of_mem hy
 unfold zeX at h
 rw [List.pairwise_iff_getElem] at h
 rintro ⟨m1, m2⟩
 rcases Nat.lt_trichotomy i j with hij | hij | hij
 ·have := h i j hi hj hij; omega
 ·subst hij; exact hne rfl
 ·have := h j i hj hi hij; omega
theorem zeX.sub {l k : List Bl} (h : zeX l) (hs : k.Sublist l) : zeX k := List.Pairwise.sublist hs h
def zbl (l : List Bl) (v : Bl) : List Bl := l.filter fun x => decide (x ≠ v)
theorem zeU (l : List Bl) (v : Bl) : (zbl l v).Sublist l := List.filter_sublist
theorem zgV.nodup {l : List Bl} (h : zgV l) : l.Nodup := by
 unfold List.Nodup
 rw [List.pairwise_iff_getElem]
 intro i j hi hj hij he
 have := h i j _ _ hij (List.getElem?_eq_getElem hi) (List.getElem?_eq_getElem hj)
 rw [he] at this; omega
theorem zfH {l : List Bl} {v : Bl} {j : Nat} (hn : l.Nodup) (hj : l[j]? = some v) : l.eraseIdx j = zbl l v := by
 induction l generalizing j with
 | nil => simp at hj
 | cons x l ih =>
  obtain ⟨h1, h2⟩ := List.nodup_cons.1 hn
  cases j with
  | zero =>
   simp at hj; subst hj
   rw [List.eraseIdx_cons_zero]
   unfold zbl
   rw [List.filter_cons_of_neg (by simp)]
   exact (List.filter_eq_self.2 (fun a ha => by simp; intro h; subst h; exact h1 ha)).symm
  | succ j =>
   rw [List.getElem?_cons_succ] at hj
   rw [List.eraseIdx_cons_succ, ih h2 hj]
   unfold zbl
   rw [List.filter_cons_of_pos (by simp; intro h; subst h; exact h1 (List.mem_of_getElem? hj))]
def zdD : List Bl → Bl → List Bl
 | [], b => [b]
 | x :: r, b => if b.p < x.p then b :: x :: r else x :: zdD r b
theorem za1 (l : List Bl) (b : Bl) : (zdD l b).Perm (b :: l) := by
 induction l with
 | nil => exact List.Perm.refl _
 | cons x r ih =>
  unfold zdD
  split
  ·exact List.Perm.refl _
  ·exact (ih.cons x).trans (List.Perm.swap _ _ _)
theorem zlJ {l : List Bl} {b : Bl} {k : Nat} (hk : AtB l b.p k) (hne : ∀ y ∈ l, y.p ≠ b.p) : l.take k ++ b :: l.drop k = zdD l b := by
 induction l generalizing k with
 | nil =>
  have : k = 0 := by have := hk.1; simpa using this
  subst this; rfl
 | cons x r ih =>
  unfold zdD
  cases k with
  | zero =>
   have h1 := hk.2.2 0 x rfl (Nat.le_refl _)
   have h2 := hne x (by simp)
   rw [if_pos (by omega)]; rfl
  | succ k =>
   have h1 := hk.2.1 0 x rfl (by omega)
   rw [if_neg (by omega), List.take_succ_cons, List.drop_succ_cons, List.cons_append, ih (k := k) ⟨by have := hk.1; simpa using this, fun j y hj hjk => hk.2.1 (j + 1) y (by simpa using hj) (by omega), fun j y hj hjk => hk.2.2 (j + 1) y (by simpa using hj) (by omega)⟩ (fun y hy => hne y (by simp [hy]))]
def zbm (b : Bl) : Bl := ⟨min b.p (zaF b).p, b.o + 1⟩
def zg5 (od : Int) : Nat → List Bl → Bl → List Bl × Bl
 | 0, l, b => (l, b)
 | n + 1, l, b => if b.o < od ∧ zaF b ∈ l then zg5 od n (zbl l (zaF b)) (zbm b) else (l, b)
theorem zl7 {o od : Int} (h0 : 0 ≤ o) (h1 : o ≤ od) (h8 : od ≤ 8) : pw od % pw o = 0 := by
 rcases zck h0 (by omega) with rfl | rfl | rfl | rfl | rfl | rfl | rfl | rfl | rfl <;>
 rcases zck (o := od) (by omega) h8 with rfl | rfl | rfl | rfl | rfl | rfl | rfl | rfl | rfl <;> first | decide | omega
theorem zcd {od : Int} {b : Bl} (h : zbI od b) (h8 : od ≤ 8) (ho : b.o < od) : (zaF b = ⟨b.p + pw b.o, b.o⟩ ∧ b.p % (2 * pw b.o) = 0 ∧ b.p + 2 * pw b.o ≤ pw od) ∨ (zaF b = ⟨b.p - pw b.o, b.o⟩ ∧ 0 ≤ b.p - pw b.o ∧ (b.p - pw b.o) % (2 * pw b.o) = 0) := by
 obtain ⟨h1, h2, h3, h4, h5⟩ := h
 have hd := zl7 (o := b.o + 1) (by omega) (by omega) h8
 rw [zbk h1] at hd
 generalize pw od = E at h4 hd ⊢
 obtain ⟨p, o⟩ := b
 simp only at *
 unfold zaF
 simp only
 by_cases hc : p % (2 * pw o) = 0
 ·left
  rw [if_pos hc]
  refine ⟨rfl, hc, ?_⟩
  rcases zck h1 (by omega) with rfl | rfl | rfl | rfl | rfl | rfl | rfl | rfl | rfl
  all_goals
   simp only [pw, Int.reduceToNat, Int.reducePow, Int.reduceMul] at h4 h5 hd hc ⊢
   omega
 ·right
  rw [if_neg hc]
  refine ⟨rfl, ?_, ?_⟩
  all_goals
   rcases zck h1 (by omega) with rfl | rfl | rfl | rfl | rfl | rfl | rfl | rfl | rfl
   all_goals
    simp only [pw, Int.reduceToNat, Int.reducePow, Int.reduceMul] at h4 h5 hd hc ⊢
    omega
theorem zeG {od : Int} {b : Bl} (h : zbI od b) (h8 : od ≤ 8) (ho : b.o < od) : zbI od (zbm b) := by
 have hp := zP b.o
 have hs := zbk h.1
 unfold zbm zbI
 simp only
 rw [hs]
 rcases zcd h h8 ho with ⟨ht, h1, h2⟩ | ⟨ht, h1, h2⟩
 ·rw [ht]; simp only
  rw [show min b.p (b.p + pw b.o) = b.p by omega]
  exact ⟨by have := h.1; omega, by omega, h.2.2.1, by omega, h1⟩
 ·rw [ht]; simp only
  rw [show min b.p (b.p - pw b.o) = b.p - pw b.o by omega]
  have := h.end_le
  exact ⟨by have := h.1; omega, by omega, h1, by omega, h2⟩
theorem zhg {od : Int} {b x : Bl} (h : zbI od b) (h8 : od ≤ 8) (ho : b.o < od) (hm : zbW x (zbm b)) : zbW x b ∨ zbW x (zaF b) := by
 have hp := zP b.o
 have hs := zbk h.1
 have hx := zP x.o
 obtain ⟨m1, m2⟩ := hm
 unfold zbm at m1 m2
 simp only at m1 m2
 rw [hs] at m1
 unfold zbW
 rcases zcd h h8 ho with ⟨ht, h1, h2⟩ | ⟨ht, h1, h2⟩
 ·rw [ht] at m1 m2 ⊢; simp only at m1 m2 ⊢; omega
 ·rw [ht] at m1 m2 ⊢; simp only at m1 m2 ⊢; omega
structure ze7 (od : Int) (l : List Bl) (b : Bl) : Prop where
 disj : zeX l
 may : zbI od b
 free : ∀ x ∈ l, ¬ zbW x b
theorem ze7.step {od : Int} {l : List Bl} {b : Bl} (h : ze7 od l b) (h8 : od ≤ 8) (ho : b.o < od) (hm : zaF b ∈ l) : ze7 od (zbl l (zaF b)) (zbm b) := by
 refine ⟨h.disj.sub (zeU _ _), zeG h.may h8 ho, fun x hx hmm => ?_⟩
 obtain ⟨h1, h2⟩ := List.mem_filter.1 hx
 rcases zhg h.may h8 ho hmm with h3 | h3
 ·exact h.free x h1 h3
 ·exact h.disj.apart h1 hm (by simpa using h2) h3
theorem ze7.ne {od : Int} {l : List Bl} {b : Bl} (h : ze7 od l b) : ∀ y ∈ l, y.p ≠ b.p := fun y hy he => h.free y hy ⟨by have := zP b.o; omega, by have := zP y.o; omega⟩
theorem zk0 {od : Int} {n : Nat} {l : List Bl} {b : Bl} (h : ¬ (b.o < od ∧ zaF b ∈ l)) : zg5 od n l b = (l, b) := by
 cases n with
 | zero => rfl
 | succ n => rw [zg5, if_neg h]
def zlY (od : Int) (fs : List Bl) (b : Bl) : List Bl := zdD (zg5 od (od - b.o).toNat fs b).1 (zg5 od (od - b.o).toNat fs b).2
open Go.RowKit
theorem zfW : (Tryz.prog.info? 124).map (·.size) = some 2 := by kernel_rfl
open Go.RowKit Go.Lib
theorem zr.part {B : Nat} {w0 w : World} {g t n j : Nat} {xs : List Value} {M : List Blk} (hp : Hp B w0 w (⟨g, xs, t, n⟩ :: M)) : zr w (some ⟨g, j, none⟩) (xs.drop j) := fun q v hq => ⟨g, j, rfl, hp.cell at0 (by rw [List.getElem?_drop] at hq; exact hq)⟩
open Go.RowKit
theorem zr.box {w : World} {b : Nat} {q r : Int} (h : zr w (some ⟨b, 0, none⟩) [.int .i64 q, .int .i64 r]) : zkx w b q r := fun j v hj => by
 obtain ⟨b', off', he, hc⟩ := h j v hj
 injection he with he; injection he with e1 e2; subst e1; subst e2; exact hc
theorem zlN.no {l : List Bl} {v : Bl} {r : Int} (h : zlN l v r) (hn : v ∉ l) : r = -1 := by
 rcases h with ⟨h, _⟩ | ⟨j, _, hj⟩
 ·exact h
 ·exact absurd (List.mem_of_getElem? hj) hn
def ziV (od : Int) (fs : List Bl) (b0 : Bl) (k : Nat) (l : List Bl) (b : Bl) : Prop := ze7 od l b ∧ zg5 od (od - b0.o).toNat fs b0 = zg5 od k l b ∧ l.length ≤ 600 ∧ k = (od - b.o).toNat
theorem ziV.done {od : Int} {fs : List Bl} {b0 b : Bl} {k : Nat} {l : List Bl} (h : ziV od fs b0 k l b) (hn : ¬ (b.o < od ∧ zaF b ∈ l)) {i : Nat} (hi : AtB l b.p i) : l.take i ++ b :: l.drop i = zlY od fs b0 := by
 rw [zlJ hi h.1.ne]
 unfold zlY
 rw [h.2.1, zk0 hn]
def znc (w : World) (M : List Blk) (a : Option Addr) (xs : List Value) : Prop := ∀ (w1 : World) (L : List Blk), Hp w.heap.size w w1 L → (∀ p ∈ M, p ∈ L) → zr w1 a xs
theorem znc.at {w w1 : World} {M L : List Blk} {a : Option Addr} {xs : List Value} (h : znc w M a xs) (hp : Hp w.heap.size w w1 L) (hm : ∀ p ∈ M, p ∈ L) : zr w1 a xs := h w1 L hp hm
end Go.Proofs.YtaafajaadfgaoaaGreat
