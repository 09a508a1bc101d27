/- Plain Lean: of five honest shelves what was written is told, what was dropped isn't there. -/
import Derived.Test.YtdnebgilkfafhaaGreatDoorSpSt
import Derived.Test.YtdnebgilkfafhaaGreatDoorSpD1
import Derived.Test.YtdnebgilkfafhaaGreatDoorSpN2
namespace Go.Proofs.YtdnebgilkfafhaaGreatDoor.Pl
set_option linter.unusedVariables false
set_option linter.unusedSimpArgs false
def dropX (l : List Obj) (nm : Tx) : List Obj := if (findO l nm).isSome then dropL l nm else l
theorem dropX_same (l : List Obj) (nm : Tx) : findO (dropX l nm) nm = none := by
  unfold dropX
  split
  · exact find_drop_same l nm
  · next h => simpa using h
theorem dropX_other {l : List Obj} (h : Rise l) (nm : Tx) {x : Tx} (hx : x ≠ nm) : findO (dropX l nm) x = findO l x := by
  unfold dropX
  split
  · exact find_drop_other h nm hx
  · rfl
theorem dropX_chk {l : List Obj} (h : chk l = 0) (nm : Tx) : chk (dropX l nm) = 0 := by
  unfold dropX
  split
  · exact chk_drop h nm
  · exact h
theorem dropX_len (l : List Obj) (nm : Tx) : (dropX l nm).length ≤ l.length := by
  unfold dropX
  split
  · unfold dropL below above
    rw [List.length_append]
    have : ∀ l : List Obj, (l.filter (fun o => less o.name nm)).length + (l.filter (fun o => less nm o.name)).length ≤ l.length := by
      intro l
      induction l with
      | nil => simp
      | cons o r ih =>
        rw [List.filter_cons, List.filter_cons]
        have hn : ¬ (less o.name nm = true ∧ less nm o.name = true) := fun ⟨h1, h2⟩ => by have := less_trans h1 h2; rw [less_irrefl] at this; cases this
        split <;> split <;> simp_all <;> omega
    exact this l
  · exact Nat.le_refl _
theorem drop_hon {s : Shelf} {nm : Tx} (h : s.fates = [] ∧ chk s.objs = 0) (hn : okName nm = true) : (dropS nm s).1 = ⟨dropX s.objs nm, []⟩ ∧ ((dropS nm s).2 = 0 ∨ (dropS nm s).2 = 9) := by
  obtain ⟨l, F⟩ := s
  obtain ⟨rfl, h2⟩ := h
  unfold dropS dropA
  simp only [askE_of h2 hn]
  unfold dropX dropR
  cases hf : findO l nm <;> simp [hf]
def dropAll (st : Store) (nm : Tx) : Store × Nat := ((five (fun _ => dropS nm) 17 st).1, firstE 9 (five (fun _ => dropS nm) 17 st).2)
theorem dropAll_hon {st : Store} (h : Hon st) {nm : Tx} (hn : okName nm = true) : dropAll st nm = (⟨(List.range 5).map fun i => ⟨dropX (st.sh.getD i noSh).objs nm, []⟩, -1⟩, 0) := by
  unfold dropAll
  rw [five_hon _ _ h]
  have e1 : ((List.range 5).map fun i => (dropS nm (st.sh.getD i noSh)).1) = (List.range 5).map fun i => ⟨dropX (st.sh.getD i noSh).objs nm, []⟩ := List.map_congr_left fun i hi => (drop_hon (h.get (List.mem_range.1 hi)) hn).1
  have e2 : firstE 9 ((List.range 5).map fun i => (dropS nm (st.sh.getD i noSh)).2) = 0 := firstE_zero 9 _ fun x hx => by
    obtain ⟨i, hi, rfl⟩ := List.mem_map.1 hx
    exact (drop_hon (h.get (List.mem_range.1 hi)) hn).2
  show ((⟨(List.range 5).map fun i => (dropS nm (st.sh.getD i noSh)).1, -1⟩ : Store), firstE 9 ((List.range 5).map fun i => (dropS nm (st.sh.getD i noSh)).2)) = _
  rw [e1, e2]
theorem dropAll_is {st : Store} (h : Hon st) {nm : Tx} (hn : okName nm = true) : Hon (dropAll st nm).1 := by
  rw [dropAll_hon h hn]
  refine ⟨by simp, rfl, fun s hs => ?_⟩
  obtain ⟨i, hi, rfl⟩ := List.mem_map.1 hs
  exact ⟨rfl, dropX_chk (h.get (List.mem_range.1 hi)).2 nm⟩
/-- What stands on the shelves: of each name of a list the parts of what goes with it; nothing else. -/
def Wr (st : Store) (l : List Tx) (data : Tx → Tx) : Prop := ∀ x i, i < 5 → (findO (st.sh.getD i noSh).objs x).map (·.data) = if x ∈ l then some (partOf x (data x) i) else none
theorem Wr.put {st : Store} {l : List Tx} {data : Tx → Tx} (w : Wr st l data) (h : Hon st) {s : Tx} (hn : okName s = true) (hd : (data s).length ≤ 65536) : Wr (putAll st s (partOf s (data s))).1 (l ++ [s]) data := by
  have hp : ∀ i, i < 5 → (partOf s (data s) i).length ≤ 65536 := fun i hi => part_len (okName_len hn).2 hd i hi
  intro x i hi
  by_cases hx : x = s
  · subst hx
    obtain ⟨o, ho, hod⟩ := putAll_has h hn hp i hi
    rw [ho, if_pos (by simp)]
    simp [hod]
  · rw [putAll_other h hn hp hx hi, w x i hi]
    simp [hx]
theorem Wr.drop {st : Store} {l : List Tx} {data : Tx → Tx} (w : Wr st l data) (h : Hon st) {g : Tx} (hn : okName g = true) : Wr (dropAll st g).1 (l.filter fun x => decide (x ≠ g)) data := by
  intro x i hi
  rw [dropAll_hon h hn]
  simp only
  rw [getD_range _ _ hi]
  by_cases hx : x = g
  · subst hx
    rw [dropX_same, if_neg (by simp)]; rfl
  · rw [dropX_other ((chk_iff _).1 (h.get hi).2).1 g hx, w x i hi]
    simp [hx]
theorem Wr.told {st : Store} {l : List Tx} {data : Tx → Tx} (w : Wr st l data) (h : Hon st) {x : Tx} (hn : okName x = true) : (getAll st x).2 = (List.range 5).map (powT x (partOf x (data x)) (if x ∈ l then 5 else 0)) := by
  unfold getAll five
  refine List.map_congr_left fun i hi => ?_
  have hi5 := List.mem_range.1 hi
  unfold ans one
  rw [h.left, leftAt_neg, if_neg (by omega)]
  show (⟨(getS x (st.sh.getD i noSh)).2.1, (getS x (st.sh.getD i noSh)).2.2, false⟩ : Told) = _
  rw [get_hon (h.get hi5) hn]
  have hw := w x i hi5
  unfold powT
  by_cases hx : x ∈ l
  · rw [if_pos hx] at hw
    obtain ⟨o, ho, hod⟩ := Option.map_eq_some_iff.1 hw
    rw [ho, if_pos hx, if_pos hi5]
    simp [hod]
  · rw [if_neg hx] at hw
    rw [Option.map_eq_none_iff.1 hw]
    simp [hx]
theorem Wr.read {st : Store} {l : List Tx} {data : Tx → Tx} (w : Wr st l data) (h : Hon st) {x : Tx} (hn : okName x = true) (hd : (data x).length ≤ 65536) : (readP st x).2 = if x ∈ l then (data x, 0) else ([], 9) := by
  unfold readP
  rw [if_neg (by rw [hn]; decide), w.told h hn]
  have hr := pow_read hn hd (if x ∈ l then 5 else 0)
  by_cases hx : x ∈ l
  · rw [if_pos hx] at hr ⊢
    rw [hr.1, if_pos hx]; rfl
  · rw [if_neg hx] at hr ⊢
    rw [hr.1, hr.2 (by omega), if_neg hx]; rfl
theorem Wr.vote_none {st : Store} {l : List Tx} {data : Tx → Tx} (w : Wr st l data) (h : Hon st) {x : Tx} (hn : okName x = true) (hx : x ∉ l) : (voteP st x).2 = ([], 9) := by
  unfold voteP
  rw [if_neg (by rw [hn]; decide), w.told h hn, if_neg hx]
  rfl
theorem names_hon {s : Shelf} (h : s.fates = [] ∧ chk s.objs = 0) : namesA s.objs s.fates [] = ([], s.objs.map (·.name), 0) := by
  obtain ⟨l, F⟩ := s
  obtain ⟨rfl, h2⟩ := h
  unfold namesA
  simp only [h2]
  simp only [List.headD_nil, List.tail_nil, ne_eq, not_true_eq_false, if_false]
  have e : l.filter (selN 0 []) = l := List.filter_eq_self.2 fun o _ => by simp [selN, hasPre]
  simp [namesR, nms, e]
end Go.Proofs.YtdnebgilkfafhaaGreatDoor.Pl
namespace Go.Proofs.YtdnebgilkfafhaaGreatDoor
open Go.RowKit
set_option linter.unusedVariables false
set_option linter.unusedSimpArgs false
theorem Hn.drop {st : Pl.Store} {k : Nat} (h : Hn st k) {nm : List UInt8} (hn : Pl.okName nm = true) : Hn (Pl.dropAll st nm).1 k := by
  refine ⟨Pl.dropAll_is h.hon hn, fun i hi => ?_⟩
  unfold toS
  rw [Pl.dropAll_hon h.hon hn]
  simp only
  rw [Pl.getD_range _ _ hi]
  exact Nat.le_trans (Pl.dropX_len _ _) (h.len i hi)
theorem drop_st {st : Pl.Store} {k : Nat} (h : Hn st k) (hk : k ≤ 1000) {X : Nat → ShX} {w : World} (hok : StOk w (toS st) X) {nm : List UInt8} (hn : Pl.okName nm = true) :
    Calls Tryz.prog 20 #[.agg (stoL (toS st) X (-1)).toArray, .string ⟨nm.toArray⟩] w (RetB (PutAllOut w.heap.size (toS (Pl.dropAll st nm).1) (-1) 0) w) := by
  refine (sdrop_good (toS st) X (-1) I64_neg nm w hok (h.fit hk) hn).mono fun e w' hr => hr.imp fun v w' hv => ?_
  have e1 : fstK 9 (dropEr nm (toS st) (-1)) 5 = (Pl.dropAll st nm).2 := by
    unfold fstK Pl.dropAll Pl.five Pl.ans
    rw [h.hon.left]
    rfl
  rw [e1, Pl.dropAll_hon h.hon hn, Pl.leftAt_neg] at hv
  refine hv.ext fun i hi => ?_
  unfold toS Pl.dropAll Pl.five
  simp only
  rw [Pl.getD_range _ _ hi]
  unfold Pl.ans dropSh
  rw [h.hon.left]
theorem read_wr {st : Pl.Store} {k : Nat} (h : Hn st k) (hk : k ≤ 1000) {l : List (List UInt8)} {data : List UInt8 → List UInt8} (hw : Pl.Wr st l data) {X : Nat → ShX} {w : World} (hok : StOk w (toS st) X) {nm : List UInt8} (hn : Pl.okName nm = true) (hd : (data nm).length ≤ 65536) (hv : VSp w) :
    Calls Tryz.prog 14 #[.agg (stoL (toS st) X (-1)).toArray, .string ⟨nm.toArray⟩] w (RetB (RdOut (if nm ∈ l then data nm else []) (if nm ∈ l then 0 else 9)) w) := by
  refine (sread_good (toS st) X (-1) I64_neg nm w hok (h.fit hk) hn hv fun i hi => Nat.le_trans (Pl.one_small nm _ _) (by decide)).mono fun e w' hr => hr.imp fun v w' hv => ?_
  have hl := hw.read h.hon hn hd
  rw [read_is hn, told_is, h.hon.left] at hl
  by_cases hx : nm ∈ l
  · rw [if_pos hx] at hl
    rw [if_pos hx, if_pos hx, ← (Prod.mk.inj hl).1, ← (Prod.mk.inj hl).2]
    exact hv.rd
  · rw [if_neg hx] at hl
    have h1 := (Prod.mk.inj hl).1
    have h2 := (Prod.mk.inj hl).2
    rw [if_neg hx, if_neg hx]
    rw [h1, h2] at hv
    exact hv.rd
theorem vote_wr {st : Pl.Store} {k : Nat} (h : Hn st k) (hk : k ≤ 1000) {l : List (List UInt8)} {data : List UInt8 → List UInt8} (hw : Pl.Wr st l data) {X : Nat → ShX} {w : World} (hok : StOk w (toS st) X) {nm : List UInt8} (hn : Pl.okName nm = true) (hx : nm ∉ l) :
    Calls Tryz.prog 18 #[.agg (stoL (toS st) X (-1)).toArray, .string ⟨nm.toArray⟩] w (RetB (RdOut [] 9) w) := by
  refine (svote_good (toS st) X (-1) I64_neg nm w hok (h.fit hk) hn).mono fun e w' hr => hr.imp fun v w' hv => ?_
  have hl := hw.vote_none h.hon hn hx
  rw [vote_is hn, told_is, h.hon.left] at hl
  have h1 := (Prod.mk.inj hl).1
  have h2 := (Prod.mk.inj hl).2
  rw [h1, h2] at hv
  exact hv.rd
theorem nm_at {st : Pl.Store} (h : Pl.Hon st) {i : Nat} (hi : i < 5) : nmT [] (toS st) i = ⟨(toS st i).objs.map (·.name), 0, false⟩ := by
  unfold nmT
  have := Pl.names_hon (h.get hi)
  unfold toS
  rw [this]
theorem names_mem {st : Pl.Store} (h : Pl.Hon st) {l : List (List UInt8)} {data : List UInt8 → List UInt8} (hw : Pl.Wr st l data) (x : List UInt8) : x ∈ acN (nmT [] (toS st)) 5 ↔ x ∈ l := by
  have key : ∀ i, i < 5 → (x ∈ (toS st i).objs.map (·.name) ↔ x ∈ l) := fun i hi => by
    have h1 := hw x i hi
    unfold toS
    constructor
    · intro hm
      obtain ⟨o, ho, rfl⟩ := List.mem_map.1 hm
      have hf : (Pl.findO (st.sh.getD i Pl.noSh).objs o.name).isSome := by
        unfold Pl.findO
        rw [List.find?_isSome]
        exact ⟨o, ho, by simp⟩
      by_cases hl : o.name ∈ l
      · exact hl
      · rw [if_neg hl, Option.map_eq_none_iff] at h1
        rw [h1] at hf; cases hf
    · intro hl
      rw [if_pos hl] at h1
      obtain ⟨o, ho, -⟩ := Option.map_eq_some_iff.1 h1
      have hm := List.mem_of_find?_eq_some ho
      have hn := List.find?_some ho
      exact List.mem_map.2 ⟨o, hm, by simpa using hn⟩
  unfold acN
  rw [List.mem_flatten]
  constructor
  · rintro ⟨L, hL, hx⟩
    obtain ⟨i, hi, rfl⟩ := List.mem_map.1 hL
    have hi5 := List.mem_range.1 hi
    rw [nm_at h hi5] at hx
    exact (key i hi5).1 (by simpa using hx)
  · intro hl
    refine ⟨_, List.mem_map.2 ⟨0, List.mem_range.2 (by omega), rfl⟩, ?_⟩
    rw [nm_at h (by omega)]
    simpa using (key 0 (by omega)).2 hl
theorem er_zero {st : Pl.Store} (h : Pl.Hon st) : erN (nmT [] (toS st)) 5 = 0 := by
  have e : ∀ i ∈ List.range 5, (if (nmT [] (toS st) i).err = 0 then 0 else 1) = 0 := fun i hi => by rw [nm_at h (List.mem_range.1 hi)]; rfl
  unfold erN
  rw [List.map_congr_left e]
  rfl
theorem ac_len {st : Pl.Store} {k : Nat} (h : Hn st k) : ∀ j, j ≤ 5 → (acN (nmT [] (toS st)) j).length ≤ j * k
  | 0, _ => by simp [acN]
  | j + 1, hj => by
    rw [acN_succ, List.length_append, nm_at h.hon (by omega)]
    have h1 := ac_len h j (by omega)
    have h2 := h.len j (by omega)
    simp only [if_true, List.length_map]
    rw [Nat.succ_mul]
    omega
theorem names_st {st : Pl.Store} {k : Nat} (h : Hn st k) (hk : k ≤ 1000) {l : List (List UInt8)} {data : List UInt8 → List UInt8} (hw : Pl.Wr st l data) {X : Nat → ShX} {w : World} (hok : StOk w (toS st) X) :
    ∃ Q : List (List UInt8), Pl.Nm.Rise Q ∧ (∀ x, x ∈ Q ↔ x ∈ l) ∧ Q.length ≤ 5000 ∧ Calls Tryz.prog 21 #[.agg (stoL (toS st) X (-1)).toArray, .string ⟨#[]⟩] w (RetB (fun v w' => ∃ (L : List Value) (A : Option Addr) (c : Nat), v = .tuple #[.agg L.toArray, .slice A Q.length c, .int .i64 0] ∧ L.length = 11 ∧ (∀ v ∈ L, v.oneCell' = true) ∧ SlAt w' 1 A Q.length c (strs Q)) w) := by
  have hlen := ac_len h 5 (Nat.le_refl 5)
  refine ⟨Pl.Nm.namesP (acN (nmT [] (toS st)) 5), Pl.Nm.namesP_rise _, fun x => by rw [Pl.Nm.namesP_mem]; exact names_mem h.hon hw x, ?_, (snames_any (toS st) X [] w hok (h.fit hk) (by omega) (by rw [er_zero h.hon]; omega)).mono fun e w' hr => hr.imp fun v w' hv => ?_⟩
  · unfold Pl.Nm.namesP
    have h1 := Lib.compact_length_le (Pl.Nm.sortT (acN (nmT [] (toS st)) 5))
    rw [Pl.Nm.sortT_len] at h1
    omega
  · obtain ⟨X', A, c, rfl, hs⟩ := hv
    exact ⟨_, A, c, rfl, rfl, stoL_one _ _ _, hs⟩
end Go.Proofs.YtdnebgilkfafhaaGreatDoor
