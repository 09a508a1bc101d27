/- Plain Lean: the field of 256 elements as the program reckons in it: additive maps, products, the polynomial through three points; any three of five parts tell all. No program in sight. -/
import Derived.WalkKit
namespace Go.Proofs.YtdnebgilkfafhaaGreatDoor.Pl
set_option linter.unusedVariables false
set_option linter.unusedSimpArgs false
/-- An element doubled. -/
def xt (a : UInt8) : UInt8 := if a.toNat.testBit 7 then (a <<< 1) ^^^ 29 else a <<< 1
def pick (b : UInt8) (i : Nat) (v : UInt8) : UInt8 := if b.toNat.testBit i then v else 0
def xts : Nat → UInt8 → UInt8
  | 0, a => a
  | n + 1, a => xts n (xt a)
/-- A product, from bit i on. -/
def mulF : Nat → Nat → UInt8 → UInt8 → UInt8 → UInt8
  | 0, _, _, _, p => p
  | n + 1, i, a, b, p => mulF n (i + 1) (xt a) b (p ^^^ pick b i a)
def mulB (a b : UInt8) : UInt8 := mulF 8 0 a b 0
/-- A map that is additive. -/
def Additive (f : UInt8 → UInt8) : Prop := ∀ x y, f (x ^^^ y) = f x ^^^ f y
theorem xor_self8 (x : UInt8) : x ^^^ x = 0 := by simp
theorem Additive.zero {f : UInt8 → UInt8} (h : Additive f) : f 0 = 0 := by
  have h1 := h 0 0
  rw [xor_self8, xor_self8] at h1
  exact h1
theorem Additive.comp {f g : UInt8 → UInt8} (hf : Additive f) (hg : Additive g) : Additive fun x => f (g x) := fun x y => by
  show f (g (x ^^^ y)) = _
  rw [hg, hf]
theorem Additive.xor {f g : UInt8 → UInt8} (hf : Additive f) (hg : Additive g) : Additive fun x => f x ^^^ g x := fun x y => by
  show f (x ^^^ y) ^^^ g (x ^^^ y) = f x ^^^ g x ^^^ (f y ^^^ g y)
  rw [hf, hg]
  ac_rfl
theorem Additive.id : Additive fun x => x := fun _ _ => rfl
theorem Additive.nil : Additive fun _ => 0 := fun _ _ => by simp
theorem bits_all : ((List.range 256).all fun n => (UInt8.ofNat n == (pick (UInt8.ofNat n) 0 1 ^^^ (pick (UInt8.ofNat n) 1 2 ^^^ (pick (UInt8.ofNat n) 2 4 ^^^ (pick (UInt8.ofNat n) 3 8 ^^^ (pick (UInt8.ofNat n) 4 16 ^^^ (pick (UInt8.ofNat n) 5 32 ^^^ (pick (UInt8.ofNat n) 6 64 ^^^ pick (UInt8.ofNat n) 7 128))))))))) = true := by decide +kernel
theorem bits_of (x : UInt8) : x = pick x 0 1 ^^^ (pick x 1 2 ^^^ (pick x 2 4 ^^^ (pick x 3 8 ^^^ (pick x 4 16 ^^^ (pick x 5 32 ^^^ (pick x 6 64 ^^^ pick x 7 128)))))) := by
  have h := List.all_eq_true.1 bits_all x.toNat (List.mem_range.2 x.toNat_lt)
  rw [UInt8.ofNat_toNat] at h
  exact eq_of_beq h
theorem Additive.pick {f : UInt8 → UInt8} (h : Additive f) (b : UInt8) (i : Nat) (v : UInt8) : f (pick b i v) = Pl.pick b i (f v) := by
  unfold Pl.pick
  split
  · rfl
  · exact h.zero
/-- Two additive maps that are alike at eight elements are alike. -/
theorem Additive.ext {f g : UInt8 → UInt8} (hf : Additive f) (hg : Additive g) (h : f 1 = g 1 ∧ f 2 = g 2 ∧ f 4 = g 4 ∧ f 8 = g 8 ∧ f 16 = g 16 ∧ f 32 = g 32 ∧ f 64 = g 64 ∧ f 128 = g 128) (x : UInt8) : f x = g x := by
  rw [bits_of x]
  simp only [hf _ _, hg _ _, hf.pick, hg.pick, h]
theorem pick_add (b c : UInt8) (i : Nat) (v : UInt8) : pick (b ^^^ c) i v = pick b i v ^^^ pick c i v := by
  unfold pick
  rw [UInt8.toNat_xor, Nat.testBit_xor]
  cases b.toNat.testBit i <;> cases c.toNat.testBit i <;> simp
theorem mulF_addR : ∀ (n i : Nat) (a b c p q : UInt8), mulF n i a (b ^^^ c) (p ^^^ q) = mulF n i a b p ^^^ mulF n i a c q
  | 0, _, _, _, _, _, _ => rfl
  | n + 1, i, a, b, c, p, q => by
    simp only [mulF]
    rw [pick_add, show p ^^^ q ^^^ (pick b i a ^^^ pick c i a) = (p ^^^ pick b i a) ^^^ (q ^^^ pick c i a) by ac_rfl]
    exact mulF_addR n (i + 1) (xt a) b c _ _
/-- A product is additive in its second factor. -/
theorem mul_addR (a : UInt8) : Additive (mulB a) := fun x y => by
  have h := mulF_addR 8 0 a x y 0 0
  rw [xor_self8] at h
  exact h
theorem xt_add : Additive xt := fun x y => by
  unfold xt
  rw [UInt8.toNat_xor, Nat.testBit_xor]
  have hs : (x ^^^ y) <<< 1 = (x <<< 1) ^^^ (y <<< 1) := by
    apply UInt8.toBitVec_inj.1
    simp [UInt8.toBitVec_shiftLeft, UInt8.toBitVec_xor, BitVec.shiftLeft_xor_distrib]
  rw [hs]
  cases x.toNat.testBit 7 <;> cases y.toNat.testBit 7 <;> simp
  · ac_rfl
  · ac_rfl
  · rw [show (x <<< 1) ^^^ (29 : UInt8) ^^^ ((y <<< 1) ^^^ (29 : UInt8)) = (x <<< 1) ^^^ (y <<< 1) ^^^ ((29 : UInt8) ^^^ 29) by ac_rfl]; simp
theorem pick_addV (b : UInt8) (i : Nat) (v u : UInt8) : pick b i (v ^^^ u) = pick b i v ^^^ pick b i u := by
  unfold pick; split <;> simp
theorem mulF_addL : ∀ (n i : Nat) (a b c p q : UInt8), mulF n i (a ^^^ c) b (p ^^^ q) = mulF n i a b p ^^^ mulF n i c b q
  | 0, _, _, _, _, _, _ => rfl
  | n + 1, i, a, b, c, p, q => by
    simp only [mulF]
    rw [pick_addV, xt_add, show p ^^^ q ^^^ (pick b i a ^^^ pick b i c) = (p ^^^ pick b i a) ^^^ (q ^^^ pick b i c) by ac_rfl]
    exact mulF_addL n (i + 1) (xt a) b (xt c) _ _
/-- A product is additive in its first factor. -/
theorem mul_addL (b : UInt8) : Additive fun a => mulB a b := fun x y => by
  have h := mulF_addL 8 0 x b y 0 0
  rw [xor_self8] at h
  exact h
/-- What gives 1 with it. -/
def invF : Nat → UInt8 → UInt8 → UInt8
  | 0, _, p => p
  | n + 1, a, p => invF n (mulB a a) (mulB p (mulB a a))
def invB (a : UInt8) : UInt8 := invF 7 a 1
/-- The share of point number i of three at x, whose value there is y. -/
def aboveB (x0 x1 x2 x y : UInt8) (i : Nat) : UInt8 := if i = 0 then mulB (mulB y (x ^^^ x1)) (x ^^^ x2) else if i = 1 then mulB (mulB y (x ^^^ x0)) (x ^^^ x2) else mulB (mulB y (x ^^^ x0)) (x ^^^ x1)
def belowB (x0 x1 x2 : UInt8) (i : Nat) : UInt8 := if i = 0 then mulB (mulB 1 (x0 ^^^ x1)) (x0 ^^^ x2) else if i = 1 then mulB (mulB 1 (x1 ^^^ x0)) (x1 ^^^ x2) else mulB (mulB 1 (x2 ^^^ x0)) (x2 ^^^ x1)
def shareB (x0 x1 x2 x y : UInt8) (i : Nat) : UInt8 := mulB (aboveB x0 x1 x2 x y i) (invB (belowB x0 x1 x2 i))
/-- The value at x of the polynomial through three points. -/
def atB (x0 x1 x2 y0 y1 y2 x : UInt8) : UInt8 := shareB x0 x1 x2 x y0 0 ^^^ shareB x0 x1 x2 x y1 1 ^^^ shareB x0 x1 x2 x y2 2
theorem share_add (x0 x1 x2 x : UInt8) (i : Nat) : Additive fun y => shareB x0 x1 x2 x y i := by
  have key : ∀ a b c : UInt8, Additive fun y => mulB (mulB (mulB y a) b) c := fun a b c => (mul_addL c).comp ((mul_addL b).comp (mul_addL a))
  unfold shareB aboveB
  split
  · exact key _ _ _
  · split
    · exact key _ _ _
    · exact key _ _ _
/-- The weight of point number i. -/
def weightB (x0 x1 x2 x : UInt8) (i : Nat) : UInt8 := shareB x0 x1 x2 x 1 i
def waysA (a : UInt8) : List (UInt8 × UInt8 × UInt8) := [1, 2, 3, 4, 5].flatMap fun b => [1, 2, 3, 4, 5].flatMap fun c => if a = b ∨ a = c ∨ b = c then [] else [(a, b, c)]
def ways : List (UInt8 × UInt8 × UInt8) := [1, 2, 3, 4, 5].flatMap waysA
def ones : List UInt8 := [1, 2, 4, 8, 16, 32, 64, 128]
def weightOk (w : UInt8 × UInt8 × UInt8) : Bool := ([1, 2, 3, 4, 5] : List UInt8).all fun x => [0, 1, 2].all fun i => ones.all fun y => mulB (weightB w.1 w.2.1 w.2.2 x i) y == shareB w.1 w.2.1 w.2.2 x y i
theorem weight_1 : (waysA 1).all weightOk = true := by decide +kernel
theorem weight_2 : (waysA 2).all weightOk = true := by decide +kernel
theorem weight_3 : (waysA 3).all weightOk = true := by decide +kernel
theorem weight_4 : (waysA 4).all weightOk = true := by decide +kernel
theorem weight_5 : (waysA 5).all weightOk = true := by decide +kernel
theorem all_ways {f : UInt8 × UInt8 × UInt8 → Bool} (h1 : (waysA 1).all f = true) (h2 : (waysA 2).all f = true) (h3 : (waysA 3).all f = true) (h4 : (waysA 4).all f = true) (h5 : (waysA 5).all f = true) : ways.all f = true := by
  unfold ways
  simp only [List.all_flatMap, List.all_cons, List.all_nil, h1, h2, h3, h4, h5, Bool.and_true]
theorem weight_all : ways.all weightOk = true := all_ways weight_1 weight_2 weight_3 weight_4 weight_5
/-- Any three parts tell row r: what part p of element y of row i gives there. -/
def tellB (w : UInt8 × UInt8 × UInt8) (r y : UInt8) (i : Nat) : UInt8 :=
  shareB w.1 w.2.1 w.2.2 r (shareB 1 2 3 w.1 y i) 0 ^^^ shareB w.1 w.2.1 w.2.2 r (shareB 1 2 3 w.2.1 y i) 1 ^^^ shareB w.1 w.2.1 w.2.2 r (shareB 1 2 3 w.2.2 y i) 2
def tellOk (w : UInt8 × UInt8 × UInt8) : Bool := ones.all fun y => tellB w 1 y 0 == y && tellB w 2 y 0 == 0 && tellB w 3 y 0 == 0 && tellB w 1 y 1 == 0 && tellB w 2 y 1 == y && tellB w 3 y 1 == 0 && tellB w 1 y 2 == 0 && tellB w 2 y 2 == 0 && tellB w 3 y 2 == y
theorem tell_1 : (waysA 1).all tellOk = true := by decide +kernel
theorem tell_2 : (waysA 2).all tellOk = true := by decide +kernel
theorem tell_3 : (waysA 3).all tellOk = true := by decide +kernel
theorem tell_4 : (waysA 4).all tellOk = true := by decide +kernel
theorem tell_5 : (waysA 5).all tellOk = true := by decide +kernel
theorem tell_all : ways.all tellOk = true := all_ways tell_1 tell_2 tell_3 tell_4 tell_5
theorem tell_add (w : UInt8 × UInt8 × UInt8) (r : UInt8) (i : Nat) : Additive fun y => tellB w r y i :=
  (((share_add w.1 w.2.1 w.2.2 r 0).comp (share_add 1 2 3 w.1 i)).xor ((share_add w.1 w.2.1 w.2.2 r 1).comp (share_add 1 2 3 w.2.1 i))).xor ((share_add w.1 w.2.1 w.2.2 r 2).comp (share_add 1 2 3 w.2.2 i))
theorem tell_ones {w : UInt8 × UInt8 × UInt8} (hw : w ∈ ways) {y : UInt8} (hy : y ∈ ones) : tellB w 1 y 0 = y ∧ tellB w 2 y 0 = 0 ∧ tellB w 3 y 0 = 0 ∧ tellB w 1 y 1 = 0 ∧ tellB w 2 y 1 = y ∧ tellB w 3 y 1 = 0 ∧ tellB w 1 y 2 = 0 ∧ tellB w 2 y 2 = 0 ∧ tellB w 3 y 2 = y := by
  have h := List.all_eq_true.1 (List.all_eq_true.1 tell_all w hw) y hy
  simp only [Bool.and_eq_true, beq_iff_eq] at h
  obtain ⟨⟨⟨⟨⟨⟨⟨⟨h1, h2⟩, h3⟩, h4⟩, h5⟩, h6⟩, h7⟩, h8⟩, h9⟩ := h
  exact ⟨h1, h2, h3, h4, h5, h6, h7, h8, h9⟩
theorem tell_eq {w : UInt8 × UInt8 × UInt8} (hw : w ∈ ways) (y : UInt8) : tellB w 1 y 0 = y ∧ tellB w 2 y 0 = 0 ∧ tellB w 3 y 0 = 0 ∧ tellB w 1 y 1 = 0 ∧ tellB w 2 y 1 = y ∧ tellB w 3 y 1 = 0 ∧ tellB w 1 y 2 = 0 ∧ tellB w 2 y 2 = 0 ∧ tellB w 3 y 2 = y := by
  have o := fun {y : UInt8} hy => tell_ones hw (y := y) hy
  have m1 : (1 : UInt8) ∈ ones := by decide
  have m2 : (2 : UInt8) ∈ ones := by decide
  have m3 : (4 : UInt8) ∈ ones := by decide
  have m4 : (8 : UInt8) ∈ ones := by decide
  have m5 : (16 : UInt8) ∈ ones := by decide
  have m6 : (32 : UInt8) ∈ ones := by decide
  have m7 : (64 : UInt8) ∈ ones := by decide
  have m8 : (128 : UInt8) ∈ ones := by decide
  exact ⟨(tell_add w 1 0).ext .id ⟨(o m1).1, (o m2).1, (o m3).1, (o m4).1, (o m5).1, (o m6).1, (o m7).1, (o m8).1⟩ y,
    (tell_add w 2 0).ext .nil ⟨(o m1).2.1, (o m2).2.1, (o m3).2.1, (o m4).2.1, (o m5).2.1, (o m6).2.1, (o m7).2.1, (o m8).2.1⟩ y,
    (tell_add w 3 0).ext .nil ⟨(o m1).2.2.1, (o m2).2.2.1, (o m3).2.2.1, (o m4).2.2.1, (o m5).2.2.1, (o m6).2.2.1, (o m7).2.2.1, (o m8).2.2.1⟩ y,
    (tell_add w 1 1).ext .nil ⟨(o m1).2.2.2.1, (o m2).2.2.2.1, (o m3).2.2.2.1, (o m4).2.2.2.1, (o m5).2.2.2.1, (o m6).2.2.2.1, (o m7).2.2.2.1, (o m8).2.2.2.1⟩ y,
    (tell_add w 2 1).ext .id ⟨(o m1).2.2.2.2.1, (o m2).2.2.2.2.1, (o m3).2.2.2.2.1, (o m4).2.2.2.2.1, (o m5).2.2.2.2.1, (o m6).2.2.2.2.1, (o m7).2.2.2.2.1, (o m8).2.2.2.2.1⟩ y,
    (tell_add w 3 1).ext .nil ⟨(o m1).2.2.2.2.2.1, (o m2).2.2.2.2.2.1, (o m3).2.2.2.2.2.1, (o m4).2.2.2.2.2.1, (o m5).2.2.2.2.2.1, (o m6).2.2.2.2.2.1, (o m7).2.2.2.2.2.1, (o m8).2.2.2.2.2.1⟩ y,
    (tell_add w 1 2).ext .nil ⟨(o m1).2.2.2.2.2.2.1, (o m2).2.2.2.2.2.2.1, (o m3).2.2.2.2.2.2.1, (o m4).2.2.2.2.2.2.1, (o m5).2.2.2.2.2.2.1, (o m6).2.2.2.2.2.2.1, (o m7).2.2.2.2.2.2.1, (o m8).2.2.2.2.2.2.1⟩ y,
    (tell_add w 2 2).ext .nil ⟨(o m1).2.2.2.2.2.2.2.1, (o m2).2.2.2.2.2.2.2.1, (o m3).2.2.2.2.2.2.2.1, (o m4).2.2.2.2.2.2.2.1, (o m5).2.2.2.2.2.2.2.1, (o m6).2.2.2.2.2.2.2.1, (o m7).2.2.2.2.2.2.2.1, (o m8).2.2.2.2.2.2.2.1⟩ y,
    (tell_add w 3 2).ext .id ⟨(o m1).2.2.2.2.2.2.2.2, (o m2).2.2.2.2.2.2.2.2, (o m3).2.2.2.2.2.2.2.2, (o m4).2.2.2.2.2.2.2.2, (o m5).2.2.2.2.2.2.2.2, (o m6).2.2.2.2.2.2.2.2, (o m7).2.2.2.2.2.2.2.2, (o m8).2.2.2.2.2.2.2.2⟩ y⟩
/-- Any three of five parts tell the three bytes. -/
theorem three_tell {w : UInt8 × UInt8 × UInt8} (hw : w ∈ ways) (d0 d1 d2 : UInt8) (r : UInt8) :
    atB w.1 w.2.1 w.2.2 (atB 1 2 3 d0 d1 d2 w.1) (atB 1 2 3 d0 d1 d2 w.2.1) (atB 1 2 3 d0 d1 d2 w.2.2) r = tellB w r d0 0 ^^^ tellB w r d1 1 ^^^ tellB w r d2 2 := by
  have a := fun i x y => share_add w.1 w.2.1 w.2.2 r i x y
  simp only at a
  unfold atB tellB
  simp only [a]
  ac_rfl
theorem three_rows {w : UInt8 × UInt8 × UInt8} (hw : w ∈ ways) (d0 d1 d2 : UInt8) :
    atB w.1 w.2.1 w.2.2 (atB 1 2 3 d0 d1 d2 w.1) (atB 1 2 3 d0 d1 d2 w.2.1) (atB 1 2 3 d0 d1 d2 w.2.2) 1 = d0 ∧
    atB w.1 w.2.1 w.2.2 (atB 1 2 3 d0 d1 d2 w.1) (atB 1 2 3 d0 d1 d2 w.2.1) (atB 1 2 3 d0 d1 d2 w.2.2) 2 = d1 ∧
    atB w.1 w.2.1 w.2.2 (atB 1 2 3 d0 d1 d2 w.1) (atB 1 2 3 d0 d1 d2 w.2.1) (atB 1 2 3 d0 d1 d2 w.2.2) 3 = d2 := by
  have h0 := tell_eq hw d0
  have h1 := tell_eq hw d1
  have h2 := tell_eq hw d2
  refine ⟨?_, ?_, ?_⟩
  · rw [three_tell hw, h0.1, h1.2.2.2.1, h2.2.2.2.2.2.2.1]; simp
  · rw [three_tell hw, h0.2.1, h1.2.2.2.2.1, h2.2.2.2.2.2.2.2.1]; simp
  · rw [three_tell hw, h0.2.2.1, h1.2.2.2.2.2.1, h2.2.2.2.2.2.2.2.2]; simp
/-- The program's weights and the polynomial give the same. -/
theorem weight_eq {w : UInt8 × UInt8 × UInt8} (hw : w ∈ ways) {x : UInt8} (hx : x ∈ ([1, 2, 3, 4, 5] : List UInt8)) (i : Nat) (hi : i < 3) (y : UInt8) : mulB (weightB w.1 w.2.1 w.2.2 x i) y = shareB w.1 w.2.1 w.2.2 x y i := by
  have hi3 : i ∈ ([0, 1, 2] : List Nat) := by
    have : i = 0 ∨ i = 1 ∨ i = 2 := by omega
    rcases this with rfl | rfl | rfl <;> decide
  have o : ∀ y ∈ ones, mulB (weightB w.1 w.2.1 w.2.2 x i) y = shareB w.1 w.2.1 w.2.2 x y i := fun y hy => eq_of_beq (List.all_eq_true.1 (List.all_eq_true.1 (List.all_eq_true.1 (List.all_eq_true.1 weight_all w hw) x hx) i hi3) y hy)
  exact (mul_addR _).ext (share_add w.1 w.2.1 w.2.2 x i) ⟨o _ (by decide), o _ (by decide), o _ (by decide), o _ (by decide), o _ (by decide), o _ (by decide), o _ (by decide), o _ (by decide)⟩ y
end Go.Proofs.YtdnebgilkfafhaaGreatDoor.Pl
