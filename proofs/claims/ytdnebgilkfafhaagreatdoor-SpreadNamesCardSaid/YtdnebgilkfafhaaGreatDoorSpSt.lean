/- The calls of five honest shelves, and of such two of which were bent, as what the plain store answers. -/
import Derived.Test.YtdnebgilkfafhaaGreatDoorSpLi
import Derived.Test.YtdnebgilkfafhaaGreatDoorSpR3
namespace Go.Proofs.YtdnebgilkfafhaaGreatDoor.Pl
set_option linter.unusedVariables false
set_option linter.unusedSimpArgs false
theorem find_okO {l : List Obj} {nm : Tx} {o : Obj} (h : chk l = 0) (hf : findO l nm = some o) : OkO o := ((chk_iff l).1 h).2 o (List.mem_of_find?_eq_some hf)
theorem told_small (nm : Tx) (s : Shelf) : (toldS nm s).2.data.length ≤ 65536 := by
  unfold toldS getS getA
  by_cases h : askE s.objs nm ≠ 0
  · simp only [if_pos h]; exact Nat.zero_le _
  · simp only [if_neg h]
    have hc := (askE_ok (Decidable.not_not.1 h)).1
    unfold getR
    split
    · exact Nat.zero_le _
    · cases hf : findO s.objs nm with
      | none => exact Nat.zero_le _
      | some o =>
        obtain ⟨-, h1, h2, -⟩ := find_okO hc hf
        simp only
        split
        · exact Nat.zero_le _
        · split
          · exact h2
          · split
            · simp only [flip_len]; exact h1
            · exact h1
theorem one_small (nm : Tx) (n : Int) (s : Shelf) : (one (toldS nm) goneT n s).2.data.length ≤ 65536 := by
  unfold one
  split
  · exact Nat.zero_le _
  · exact told_small nm s
end Go.Proofs.YtdnebgilkfafhaaGreatDoor.Pl
namespace Go.Proofs.YtdnebgilkfafhaaGreatDoor
open Go.RowKit
set_option linter.unusedVariables false
set_option linter.unusedSimpArgs false
theorem voteF_eq (l0 : List Pl.Told) : ∀ r : List Pl.Told, voteF r l0 = (r.find? fun t => decide (t.err = 0) && decide (3 ≤ Pl.alikeN t l0)).map (·.data)
  | [] => rfl
  | t :: r => by
    rw [voteF, List.find?_cons, voteF_eq l0 r]
    by_cases h : t.err = 0 ∧ 3 ≤ Pl.alikeN t l0
    · rw [if_pos h]
      have : (decide (t.err = 0) && decide (3 ≤ Pl.alikeN t l0)) = true := by simp [h]
      rw [this]; rfl
    · rw [if_neg h]
      have : (decide (t.err = 0) && decide (3 ≤ Pl.alikeN t l0)) = false := by
        rw [Bool.eq_false_iff]; intro e; apply h; simpa using e
      rw [this]
/-- A shelf of a store, by its place. -/
def toS (st : Pl.Store) (i : Nat) : Pl.Shelf := st.sh.getD i Pl.noSh
theorem told_is (st : Pl.Store) (nm : List UInt8) : (Pl.getAll st nm).2 = (List.range 5).map (getTo nm (toS st) st.left) := rfl
theorem vote_is {st : Pl.Store} {nm : List UInt8} (hn : Pl.okName nm = true) : (Pl.voteP st nm).2 = (ansD (voteO (Pl.getAll st nm).2), ansE (Pl.whyE (Pl.getAll st nm).2) (voteO (Pl.getAll st nm).2)) := by
  unfold Pl.voteP voteO
  rw [if_neg (by rw [hn]; decide), voteF_eq]
  cases (Pl.getAll st nm).2.find? fun t => decide (t.err = 0) && decide (3 ≤ Pl.alikeN t (Pl.getAll st nm).2) <;> rfl
theorem read_is {st : Pl.Store} {nm : List UInt8} (hn : Pl.okName nm = true) : (Pl.readP st nm).2 = (ansD (Pl.joinedP (Pl.fitsP nm (Pl.getAll st nm).2)), ansE (Pl.whyE (Pl.getAll st nm).2) (Pl.joinedP (Pl.fitsP nm (Pl.getAll st nm).2))) := by
  unfold Pl.readP
  rw [if_neg (by rw [hn]; decide)]
  cases Pl.joinedP (Pl.fitsP nm (Pl.getAll st nm).2) <;> rfl
theorem stoL_ext {S S' : Nat → Pl.Shelf} (X : Nat → ShX) (n : Int) (h : ∀ i, i < 5 → S i = S' i) : stoL S X n = stoL S' X n := by
  unfold stoL
  rw [stoC_ext fun i hi => ⟨h i hi, rfl⟩]
theorem StF.ext {b : Nat} {w : World} {S S' : Nat → Pl.Shelf} {X : Nat → ShX} (hs : StF b w S X) (h : ∀ i, i < 5 → S i = S' i) : StF b w S' X := fun i hi => by rw [← h i hi]; exact hs i hi
theorem StOk.ext {w : World} {S S' : Nat → Pl.Shelf} {X : Nat → ShX} (hs : StOk w S X) (h : ∀ i, i < 5 → S i = S' i) : StOk w S' X := fun i hi => by rw [← h i hi]; exact hs i hi
theorem PutAllOut.ext {b : Nat} {S S' : Nat → Pl.Shelf} {n : Int} {e : Nat} {v : Value} {w : World} (h : PutAllOut b S n e v w) (he : ∀ i, i < 5 → S i = S' i) : PutAllOut b S' n e v w := by
  obtain ⟨X, rfl, hs⟩ := h
  exact ⟨X, by rw [stoL_ext X n he], hs.ext he⟩
/-- An honest store, with at most k objects on each shelf. -/
structure Hn (st : Pl.Store) (k : Nat) : Prop where
  hon : Pl.Hon st
  len : ∀ i, i < 5 → (toS st i).objs.length ≤ k
theorem Hn.fit {st : Pl.Store} {k : Nat} (h : Hn st k) (hk : k ≤ 1000) : FitS (toS st) := fun i hi => FitG.small (by have := h.len i hi; omega) (by show (toS st i).fates.length ≤ _; unfold toS; rw [(h.hon.get hi).1]; exact Nat.zero_le _)
theorem putSh_st {st : Pl.Store} (hl : st.left = -1) (nm : List UInt8) (D : Nat → List UInt8) {i : Nat} (hi : i < 5) : putSh nm D (toS st) (-1) i = toS (Pl.putAll st nm D).1 i := by
  unfold toS Pl.putAll Pl.five
  simp only
  rw [Pl.getD_range _ _ hi]
  unfold Pl.ans putSh
  rw [hl]
theorem first_st {st : Pl.Store} (hl : st.left = -1) (nm : List UInt8) (D : Nat → List UInt8) : fstK 0 (putEr nm D (toS st) (-1)) 5 = (Pl.putAll st nm D).2 := by
  unfold fstK Pl.putAll Pl.five Pl.ans
  rw [hl]
  rfl
theorem Hn.put {st : Pl.Store} {k : Nat} (h : Hn st k) {nm : List UInt8} {D : Nat → List UInt8} (hn : Pl.okName nm = true) (hd : ∀ i, i < 5 → (D i).length ≤ 65536) : Hn (Pl.putAll st nm D).1 (k + 1) := by
  refine ⟨Pl.putAll_is h.hon hn hd, fun i hi => ?_⟩
  unfold toS
  rw [Pl.putAll_hon h.hon hn hd]
  simp only
  rw [Pl.getD_range _ _ hi]
  exact Nat.le_trans (Pl.put_len1 _ _) (Nat.succ_le_succ (h.len i hi))
def fresh0 : Pl.Store := ⟨List.replicate 5 Pl.noSh, -1⟩
theorem fresh_at {i : Nat} (hi : i < 5) : toS fresh0 i = Pl.noSh := by
  rcases lt5 hi with rfl | rfl | rfl | rfl | rfl <;> rfl
theorem fresh_hn : Hn fresh0 0 := by
  refine ⟨⟨rfl, rfl, fun s hs => ?_⟩, fun i hi => by rw [fresh_at hi]; exact Nat.le_refl _⟩
  obtain rfl := List.eq_of_mem_replicate hs
  exact ⟨rfl, rfl⟩
theorem I64_neg : Pl.I64 (-1) := by unfold Pl.I64; omega
theorem mayPut_ok {nm d : List UInt8} (hn : Pl.okName nm = true) (hd : d.length ≤ 65536) : Pl.mayPutE nm d = 0 := by unfold Pl.mayPutE; rw [if_neg (by rw [hn]; decide), if_neg (by omega)]
theorem post_st {st : Pl.Store} {k : Nat} (h : Hn st k) (hk : k ≤ 1000) {X : Nat → ShX} {w : World} (hok : StOk w (toS st) X) {nm d : List UInt8} (hn : Pl.okName nm = true) (hd : d.length ≤ 65536) :
    Calls Tryz.prog 17 #[.agg (stoL (toS st) X (-1)).toArray, .string ⟨nm.toArray⟩, .string ⟨d.toArray⟩] w (RetB (PutAllOut w.heap.size (toS (Pl.putAll st nm fun _ => d).1) (-1) 0) w) := by
  refine (spost_good (toS st) X (-1) I64_neg nm d w hok (h.fit hk) (mayPut_ok hn hd) (by omega)).mono fun e w' hr => hr.imp fun v w' hv => ?_
  rw [first_st h.hon.left, Pl.putAll_hon h.hon hn fun _ _ => hd, Pl.leftAt_neg] at hv
  have hx := hv.ext (fun i hi => putSh_st h.hon.left nm (fun _ => d) hi)
  exact hx
theorem write_st {st : Pl.Store} {k : Nat} (h : Hn st k) (hk : k ≤ 1000) {X : Nat → ShX} {w : World} (hok : StOk w (toS st) X) {nm d : List UInt8} (hn : Pl.okName nm = true) (hd : d.length ≤ 65536) (hv : VSp w) :
    Calls Tryz.prog 13 #[.agg (stoL (toS st) X (-1)).toArray, .string ⟨nm.toArray⟩, .string ⟨d.toArray⟩] w (RetB (PutAllOut w.heap.size (toS (Pl.putAll st nm (Pl.partOf nm d)).1) (-1) 0) w) := by
  refine (swrite_good (toS st) X (-1) I64_neg nm d w hok (h.fit hk) (mayPut_ok hn hd) (Pl.okName_len hn).2 hd hv).mono fun e w' hr => hr.imp fun v w' hv => ?_
  rw [first_st h.hon.left, Pl.putAll_hon h.hon hn fun i hi => Pl.part_len (Pl.okName_len hn).2 hd i hi, Pl.leftAt_neg] at hv
  exact hv.ext (fun i hi => putSh_st h.hon.left nm (Pl.partOf nm d) hi)
/-- Lies about a store. -/
def lied (q : Li) (st : Pl.Store) : Pl.Store := Pl.bend st (q.a % 5) (q.b % 5) q.X q.Y
theorem lied_at (q : Li) {st : Pl.Store} (hl : st.sh.length = 5) {i : Nat} (hi : i < 5) : bendS q (toS st) i = toS (lied q st) i := by
  unfold bendS lied Pl.bend toS
  simp only [List.getD_eq_getElem?_getD]
  have hb : q.b % 5 < 5 := Nat.mod_lt _ (by omega)
  have ha : q.a % 5 < 5 := Nat.mod_lt _ (by omega)
  by_cases e : i = q.b % 5
  · rw [e, upd_same, List.getElem?_set_self (by rw [List.length_set]; omega)]; rfl
  · rw [upd_other _ _ e, List.getElem?_set_ne (Ne.symm e)]
    by_cases e' : i = q.a % 5
    · rw [e', upd_same, List.getElem?_set_self (by omega)]; rfl
    · rw [upd_other _ _ e', List.getElem?_set_ne (Ne.symm e')]
theorem told_lied (q : Li) {st : Pl.Store} (h : Pl.Hon st) (nm : List UInt8) : (List.range 5).map (getTo nm (bendS q (toS st)) (-1)) = (Pl.getAll (lied q st) nm).2 := by
  rw [told_is, show (lied q st).left = -1 from h.left]
  refine List.map_congr_left fun i hi => ?_
  unfold getTo
  rw [lied_at q h.len (List.mem_range.1 hi)]
theorem vote_st {st : Pl.Store} {k : Nat} (h : Hn st k) (hk : k ≤ 1000) {X : Nat → ShX} {w : World} (hok : StOk w (toS st) X) {nm d : List UInt8} (hn : Pl.okName nm = true) (hh : Pl.Has st nm fun _ => d) {q : Li} (hq : q.Ok w) :
    Calls Tryz.prog 18 #[.agg (stoL (bendS q (toS st)) (bendX q X) (-1)).toArray, .string ⟨nm.toArray⟩] w (RetB (RdOut d 0) w) := by
  refine (svote_good (bendS q (toS st)) (bendX q X) (-1) I64_neg nm w (bend_ok hq hok) (bend_fit hq (h.fit hk)) hn).mono fun e w' hr => hr.imp fun v w' hv => ?_
  have hl := Pl.vote_law h.hon hn hh (q.a % 5) (q.b % 5) q.X q.Y
  rw [vote_is hn] at hl
  rw [told_lied q h.hon nm] at hv
  have h1 := congrArg Prod.fst hl
  have h2 := congrArg Prod.snd hl
  simp only at h1 h2
  unfold lied at hv
  rw [h1, h2] at hv
  exact hv.rd
theorem read_st {st : Pl.Store} {k : Nat} (h : Hn st k) (hk : k ≤ 1000) {X : Nat → ShX} {w : World} (hok : StOk w (toS st) X) {nm d : List UInt8} (hn : Pl.okName nm = true) (hd : d.length ≤ 65536) (hh : Pl.Has st nm (Pl.partOf nm d)) {q : Li} (hq : q.Ok w) (hv : VSp w) :
    ∃ s, Pl.sumB [s] = Pl.sumB [d] ∧ Calls Tryz.prog 14 #[.agg (stoL (bendS q (toS st)) (bendX q X) (-1)).toArray, .string ⟨nm.toArray⟩] w (RetB (RdOut s 0) w) := by
  obtain ⟨s, hl, hs⟩ := Pl.read_law h.hon hn hd hh (q.a % 5) (q.b % 5) q.X q.Y
  refine ⟨s, hs, (sread_good (bendS q (toS st)) (bendX q X) (-1) I64_neg nm w (bend_ok hq hok) (bend_fit hq (h.fit hk)) hn hv fun i hi => Nat.le_trans (Pl.one_small nm _ _) (by decide)).mono fun e w' hr => hr.imp fun v w' hv => ?_⟩
  rw [read_is hn] at hl
  rw [told_lied q h.hon nm] at hv
  have h1 := congrArg Prod.fst hl
  have h2 := congrArg Prod.snd hl
  simp only at h1 h2
  unfold lied at hv
  rw [h1, h2] at hv
  exact hv.rd
end Go.Proofs.YtdnebgilkfafhaaGreatDoor
