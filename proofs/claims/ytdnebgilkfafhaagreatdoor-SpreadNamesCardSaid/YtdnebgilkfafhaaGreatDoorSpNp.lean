/- Names of a store two of whose shelves are others: each name that stands on the honest three is among them. -/
import Derived.Test.YtdnebgilkfafhaaGreatDoorSpDp
namespace Go.Proofs.YtdnebgilkfafhaaGreatDoor.Pl
set_option linter.unusedVariables false
set_option linter.unusedSimpArgs false
/-- Each name of a list stands on all five shelves. -/
def Std (st : Store) (l : List Tx) : Prop := ∀ x ∈ l, ∀ i, i < 5 → (findO (st.sh.getD i noSh).objs x).isSome = true
theorem Std.put {st : Store} {l : List Tx} (w : Std st l) (h : Hon st) {s : Tx} {D : Nat → Tx} (hn : okName s = true) (hd : ∀ i, i < 5 → (D i).length ≤ 65536) : Std (putAll st s D).1 (l ++ [s]) := by
  intro x hx i hi
  by_cases e : x = s
  · subst e
    obtain ⟨o, ho, -⟩ := putAll_has h hn hd i hi
    rw [ho]; rfl
  · rw [putAll_other h hn hd e hi]
    rcases List.mem_append.1 hx with hx | hx
    · exact w x hx i hi
    · exact absurd (List.mem_singleton.1 hx) e
theorem Std.sub {st : Store} {l k : List Tx} (w : Std st l) (h : ∀ x ∈ k, x ∈ l) : Std st k := fun x hx => w x (h x hx)
theorem Std.drop {st : Store} {l : List Tx} (w : Std st l) (h : Hon st) {g : Tx} (hn : okName g = true) : Std (dropAll st g).1 (l.filter fun x => decide (x ≠ g)) := by
  intro x hx i hi
  have hx2 := List.mem_filter.1 hx
  rw [dropAll_hon h hn]
  simp only
  rw [getD_range _ _ hi, dropX_other ((chk_iff _).1 (h.get hi).2).1 g (by simpa using hx2.2)]
  exact w x hx2.1 i hi
theorem namesA_len (l : List Obj) (F : List Int) (p : Tx) : (namesA l F p).2.1.length ≤ l.length := by
  unfold namesA namesR
  split
  · exact Nat.zero_le _
  · simp only
    split
    · exact Nat.zero_le _
    · split
      · exact Nat.zero_le _
      · exact nms_len _ _ _
theorem namesA_short (l : List Obj) (F : List Int) (p : Tx) : ∀ x ∈ (namesA l F p).2.1, x.length ≤ 100 := by
  unfold namesA namesR
  split
  · intro x hx; cases hx
  · next hc =>
    have hc0 : chk l = 0 := by omega
    simp only
    split
    · intro x hx; cases hx
    · split
      · intro x hx; cases hx
      · intro x hx
        unfold nms at hx
        obtain ⟨o, ho, rfl⟩ := List.mem_map.1 hx
        exact (okName_len (((chk_iff l).1 hc0).2 o (List.mem_filter.1 ho).1).1).2
end Go.Proofs.YtdnebgilkfafhaaGreatDoor.Pl
namespace Go.Proofs.YtdnebgilkfafhaaGreatDoor
open Go.RowKit
set_option linter.unusedVariables false
set_option linter.unusedSimpArgs false
/-- Five numbers of which two are others. -/
theorem five_two (f : Nat → Nat) (a b K k : Nat) (ha : a < 5) (hb : b < 5) (h : ∀ i, i < 5 → f i ≤ if i = a ∨ i = b then K else k) (hk : k ≤ K) : f 0 + f 1 + f 2 + f 3 + f 4 ≤ 2 * K + 5 * k := by
  have h0 := h 0 (by omega)
  have h1 := h 1 (by omega)
  have h2 := h 2 (by omega)
  have h3 := h 3 (by omega)
  have h4 := h 4 (by omega)
  rcases lt5 ha with rfl | rfl | rfl | rfl | rfl <;> rcases lt5 hb with rfl | rfl | rfl | rfl | rfl <;> simp at h0 h1 h2 h3 h4 <;> omega
theorem bend_at (q : Li) (S : Nat → Pl.Shelf) {i : Nat} (h : ¬ (i = q.a % 5 ∨ i = q.b % 5)) : bendS q S i = S i := by
  unfold bendS
  rw [upd_other _ _ (fun e => h (Or.inr e)), upd_other _ _ (fun e => h (Or.inl e))]
theorem nmT_at {S S' : Nat → Pl.Shelf} {i : Nat} (h : S i = S' i) : nmT [] S i = nmT [] S' i := by unfold nmT; rw [h]
theorem er_bend {st : Pl.Store} (h : Pl.Hon st) (q : Li) : erN (nmT [] (bendS q (toS st))) 5 < 3 := by
  have h1 := five_two (fun i => if (nmT [] (bendS q (toS st)) i).err = 0 then 0 else 1) (q.a % 5) (q.b % 5) 1 0 (by omega) (by omega) (fun i hi => by
    by_cases e : i = q.a % 5 ∨ i = q.b % 5
    · rw [if_pos e]; split <;> omega
    · rw [if_neg e]
      rw [nmT_at (bend_at q (toS st) e), nm_at h hi]; simp) (by omega)
  have e : ∀ t : Nat → Pl.ToldN, erN t 5 = (if (t 0).err = 0 then 0 else 1) + (if (t 1).err = 0 then 0 else 1) + (if (t 2).err = 0 then 0 else 1) + (if (t 3).err = 0 then 0 else 1) + (if (t 4).err = 0 then 0 else 1) := fun t => by
    rw [erN_succ, erN_succ, erN_succ, erN_succ, erN_succ]
    show 0 + _ + _ + _ + _ + _ = _
    omega
  rw [e]
  omega
theorem ac_bend {st : Pl.Store} {k : Nat} (h : Hn st k) (hk : k ≤ 1000) {q : Li} {w : World} (hq : q.Ok w) : (acN (nmT [] (bendS q (toS st))) 5).length ≤ 8000000000000 := by
  have h1 := five_two (fun i => (if (nmT [] (bendS q (toS st)) i).err = 0 then (nmT [] (bendS q (toS st)) i).names else []).length) (q.a % 5) (q.b % 5) 2513169434900 1000 (by omega) (by omega) (fun i hi => by
    have hb : (if (nmT [] (bendS q (toS st)) i).err = 0 then (nmT [] (bendS q (toS st)) i).names else []).length ≤ (bendS q (toS st) i).objs.length := by
      split
      · exact Pl.namesA_len _ _ _
      · exact Nat.zero_le _
    by_cases e : i = q.a % 5 ∨ i = q.b % 5
    · rw [if_pos e]
      refine Nat.le_trans hb ?_
      unfold bendS
      by_cases e2 : i = q.b % 5
      · subst e2; rw [upd_same]; exact hq.fY.1
      · rw [upd_other _ _ e2]
        rcases e with e | e
        · subst e; rw [upd_same]; exact hq.fX.1
        · exact absurd e e2
    · rw [if_neg e]
      rw [bend_at q (toS st) e] at hb
      exact Nat.le_trans hb (Nat.le_trans (h.len i hi) hk)) (by omega)
  have e : ∀ t : Nat → Pl.ToldN, (acN t 5).length = (if (t 0).err = 0 then (t 0).names else []).length + (if (t 1).err = 0 then (t 1).names else []).length + (if (t 2).err = 0 then (t 2).names else []).length + (if (t 3).err = 0 then (t 3).names else []).length + (if (t 4).err = 0 then (t 4).names else []).length := fun t => by
    rw [acN_succ, acN_succ, acN_succ, acN_succ, acN_succ]
    simp only [List.length_append]
    show 0 + _ + _ + _ + _ + _ = _
    omega
  rw [e]
  omega
theorem ac_short (S : Nat → Pl.Shelf) : ∀ x ∈ acN (nmT [] S) 5, x.length ≤ 100 := fun x hx => by
  unfold acN at hx
  obtain ⟨L, hL, hx⟩ := List.mem_flatten.1 hx
  obtain ⟨i, hi, rfl⟩ := List.mem_map.1 hL
  split at hx
  · exact Pl.namesA_short _ _ _ x hx
  · cases hx
theorem honest_one (a b : Nat) (ha : a < 5) (hb : b < 5) : ∃ i, i < 5 ∧ ¬ (i = a ∨ i = b) := by
  rcases lt5 ha with rfl | rfl | rfl | rfl | rfl <;> rcases lt5 hb with rfl | rfl | rfl | rfl | rfl <;> first | exact ⟨0, by omega, by omega⟩ | exact ⟨1, by omega, by omega⟩ | exact ⟨2, by omega, by omega⟩
theorem ac_has {st : Pl.Store} (h : Pl.Hon st) {l : List (List UInt8)} (hs : Pl.Std st l) (q : Li) : ∀ x ∈ l, x ∈ acN (nmT [] (bendS q (toS st))) 5 := fun x hx => by
  obtain ⟨i, hi, e⟩ := honest_one (q.a % 5) (q.b % 5) (by omega) (by omega)
  unfold acN
  rw [List.mem_flatten]
  refine ⟨_, List.mem_map.2 ⟨i, List.mem_range.2 hi, rfl⟩, ?_⟩
  rw [nmT_at (bend_at q (toS st) e), nm_at h hi]
  simp only [if_true]
  have hf := hs x hx i hi
  unfold Pl.findO at hf
  rw [List.find?_isSome] at hf
  obtain ⟨o, ho, hn⟩ := hf
  exact List.mem_map.2 ⟨o, ho, by simpa using hn⟩
theorem Hn.mono {st : Pl.Store} {k m : Nat} (h : Hn st k) (hm : k ≤ m) : Hn st m := ⟨h.hon, fun i hi => Nat.le_trans (h.len i hi) hm⟩
theorem names_lied {st : Pl.Store} {k : Nat} (h : Hn st k) (hk : k ≤ 1000) {l : List (List UInt8)} (hs : Pl.Std st l) {X : Nat → ShX} {w : World} (hok : StOk w (toS st) X) {q : Li} (hq : q.Ok w) :
    ∃ Q : List (List UInt8), Pl.Nm.Rise Q ∧ (∀ x ∈ l, x ∈ Q) ∧ (∀ x ∈ Q, x.length ≤ 100) ∧ Q.length ≤ 8000000000000 ∧ Calls Tryz.prog 21 #[.agg (stoL (bendS q (toS st)) (bendX q X) (-1)).toArray, .string ⟨#[]⟩] w (RetB (fun v w' => ∃ (L : List Value) (A : Option Addr) (c : Nat), v = .tuple #[.agg L.toArray, .slice A Q.length c, .int .i64 0] ∧ L.length = 11 ∧ (∀ v ∈ L, v.oneCell' = true) ∧ SlAt w' 1 A Q.length c (strs Q)) w) := by
  have hlen := ac_bend h hk hq
  refine ⟨Pl.Nm.namesP (acN (nmT [] (bendS q (toS st))) 5), Pl.Nm.namesP_rise _, fun x hx => by rw [Pl.Nm.namesP_mem]; exact ac_has h.hon hs q x hx, fun x hx => ac_short _ x (by rw [← Pl.Nm.namesP_mem]; exact hx), ?_, (snames_any (bendS q (toS st)) (bendX q X) [] w (bend_ok hq hok) (bend_fit hq (h.fit hk)) hlen (er_bend h.hon q)).mono fun e w' hr => hr.imp fun v w' hv => ?_⟩
  · unfold Pl.Nm.namesP
    have h1 := Lib.compact_length_le (Pl.Nm.sortT (acN (nmT [] (bendS q (toS st))) 5))
    rw [Pl.Nm.sortT_len] at h1
    omega
  · obtain ⟨X', A, c, rfl, hs⟩ := hv
    exact ⟨_, A, c, rfl, rfl, stoL_one _ _ _, hs⟩
end Go.Proofs.YtdnebgilkfafhaaGreatDoor
