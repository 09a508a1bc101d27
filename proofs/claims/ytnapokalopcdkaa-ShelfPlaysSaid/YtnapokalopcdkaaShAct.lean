/- A list of calls of a shelf: plain, opened, and the law's great. -/
import Derived.Test.YtnapokalopcdkaaShL2
import Derived.Test.YtnapokalopcdkaaOpenSh
namespace Go.Proofs.Ytnapokalopcdkaa.Pl
structure Act where
  kind : Int
  name : List UInt8
  data : List UInt8
def bigA (a : Act) : Bool := decide (200 < a.name.length ∨ 500 < a.data.length)
def greatA (l : List Act) : Bool := l.any bigA || decide (20 < l.length)
theorem greatA_of {l : List Act} (h : greatA l = false) : l.length ≤ 20 ∧ ∀ a ∈ l, a.name.length ≤ 200 ∧ a.data.length ≤ 500 := by
  unfold greatA at h
  rw [Bool.or_eq_false_iff] at h
  have h1 := of_decide_eq_false h.2
  refine ⟨by omega, fun o ho => ?_⟩
  have h2 := List.any_eq_false.1 h.1 o ho
  unfold bigA at h2
  simp at h2
  omega
/-- What stays in a row of calls: the shelf may be, and an object of another name is as it was. -/
structure Inv (l0 : List Obj) (ot : List UInt8) (j : Nat) (l : List Obj) (F : List Int) : Prop where
  chk : chk l = 0
  fnd : findO l ot = findO l0 ot
  len : l.length ≤ 30 + j
  dat : ∀ o ∈ l, o.data.length ≤ 1000
  fat : F.length ≤ 100
section
variable {l0 l : List Obj} {F : List Int} {ot nm d : List UInt8} {j : Nat}
theorem Inv.fit (h : Inv l0 ot j l F) (hj : j ≤ 100) : Fit 1000 l F := ⟨by have := h.len; omega, by have := h.fat; omega, fun o ho => by have := h.dat o ho; omega⟩
theorem Inv.step (h : Inv l0 ot j l F) : Inv l0 ot (j + 1) l F := ⟨h.chk, h.fnd, by have := h.len; omega, h.dat, h.fat⟩
theorem Inv.tail (h : Inv l0 ot j l F) : Inv l0 ot (j + 1) l F.tail := ⟨h.chk, h.fnd, by have := h.len; omega, h.dat, by have := h.fat; rw [List.length_tail]; omega⟩
theorem inv_put (h : Inv l0 ot j l F) (hn : okName nm = true) (hne : nm ≠ ot) (hd : d.length ≤ 500) : Inv l0 ot (j + 1) (putA l F nm d).1 (putA l F nm d).2.1 ∧ (putA l F nm d).2.1 = F.tail := by
  unfold putA
  rw [if_neg (by rw [askE_of h.chk hn]; simp), if_neg (by omega)]
  refine ⟨?_, rfl⟩
  simp only
  have key : ∀ d : List UInt8, d.length ≤ 500 → Inv l0 ot (j + 1) (putL l nm d) F.tail := fun d hd =>
    ⟨chk_put h.chk hn (by omega), (find_put_other ((chk_iff l).1 h.chk).1 nm d (Ne.symm hne)).trans h.fnd, by have := put_len1 (l := l) nm d; have := h.len; omega, put_data h.dat (by omega), h.tail.fat⟩
  unfold putR
  split
  · exact h.tail
  · split
    · exact h.tail
    · simp only
      split
      · exact key _ (by rw [flip_len]; exact hd)
      · exact key _ hd
theorem inv_get (h : Inv l0 ot j l F) (hn : okName nm = true) : Inv l0 ot (j + 1) l (getA l F nm).1 ∧ (getA l F nm).1 = F.tail := by
  unfold getA
  rw [if_neg (by rw [askE_of h.chk hn]; simp)]
  exact ⟨h.tail, rfl⟩
theorem inv_names (h : Inv l0 ot j l F) : Inv l0 ot (j + 1) l (namesA l F nm).1 ∧ (namesA l F nm).1 = F.tail := by
  unfold namesA
  rw [if_neg (by rw [h.chk]; simp)]
  exact ⟨h.tail, rfl⟩
theorem inv_drop (h : Inv l0 ot j l F) (hn : okName nm = true) (hne : nm ≠ ot) : Inv l0 ot (j + 1) (dropA l F nm).1 (dropA l F nm).2.1 ∧ (dropA l F nm).2.1 = F.tail := by
  unfold dropA
  rw [if_neg (by rw [askE_of h.chk hn]; simp)]
  refine ⟨?_, rfl⟩
  simp only
  unfold dropR
  split
  · exact h.tail
  · split
    · exact h.tail
    · split
      · exact ⟨chk_drop h.chk nm, (find_drop_other ((chk_iff l).1 h.chk).1 nm (Ne.symm hne)).trans h.fnd, by have := drop_len l nm; have := h.len; simp only; omega, drop_data h.dat, h.tail.fat⟩
      · exact h.tail
end
end Go.Proofs.Ytnapokalopcdkaa.Pl
namespace Go.Proofs.Ytnapokalopcdkaa
open Go.ChangeShapes Go.WideShapes Go.ChangeAt Go.RowKit Go.Deep Go.Joins
set_option linter.unusedVariables false
set_option linter.unusedSimpArgs false
def actC (a : Pl.Act) : List Value := [.int .i64 a.kind, .string ⟨a.name.toArray⟩, .string ⟨a.data.toArray⟩]
def actCs (l : List Pl.Act) : List Value := l.flatMap actC
theorem actCs_get (l : List Pl.Act) (i j : Nat) (h : i < l.length) (hj : j < 3) : (actCs l)[i * 3 + j]? = (actC l[i])[j]? := by
  have e : actCs l = (l.map actC).flatten := by simp [actCs, List.flatMap_def]
  have hk : ∀ x ∈ l.map actC, x.length = 3 := by
    intro x hx
    obtain ⟨y, _, rfl⟩ := List.mem_map.1 hx
    rfl
  rw [e, flat_get 3 (l.map actC) hk i j (by simpa using h) hj]
  simp
theorem Rd.act {w : World} {A : Option Addr} {n : Nat} {l : List Pl.Act} (h : Rd w 3 A n (actCs l)) (hn : l.length = n) {i : Nat} (hi : i < n) :
    ∃ b off, A = some ⟨b, off, none⟩ ∧ b < w.heap.size ∧ w.cell? ⟨b, off + i * 3, none⟩ = some (.int .i64 (l[i]'(by omega)).kind) ∧ w.cell? ⟨b, off + i * 3 + 1, none⟩ = some (.string ⟨(l[i]'(by omega)).name.toArray⟩) ∧
      w.cell? ⟨b, off + i * 3 + 2, none⟩ = some (.string ⟨(l[i]'(by omega)).data.toArray⟩) := by
  obtain ⟨b, off, rfl, hb, hc⟩ := h.all (by omega)
  have hl := h.len
  have g := fun j hj => actCs_get l i j (by omega) hj
  refine ⟨b, off, rfl, hb, ?_, ?_, ?_⟩
  · rw [hc (i * 3) (by omega)]; exact g 0 (by omega)
  · rw [Nat.add_assoc, hc (i * 3 + 1) (by omega)]; exact g 1 (by omega)
  · rw [Nat.add_assoc, hc (i * 3 + 2) (by omega)]; exact g 2 (by omega)
def NoBigA (l : List Pl.Act) (j : Nat) : Prop := ∀ k (h : k < l.length), k < j → Pl.bigA l[k] = false
set_option maxRecDepth 100000 in
set_option maxHeartbeats 1000000 in
theorem greatA_any (A : Option Addr) (n c : Nat) (l : List Pl.Act) (w : World) (hl : l.length = n) (hr : Rd w 3 A n (actCs l)) (hn : n ≤ 140737488355328) :
    Calls Try.prog 19 #[.slice A n c] w (Ret (.bool (Pl.greatA l)) w) := by
  obtain ⟨G, hG⟩ : ∃ G, Pl.greatA l = G := ⟨_, rfl⟩
  rw [hG]
  have HL := Lib.hid (And.intro hl hG); clear hl hG
  go_enter Try.func19, Try.ntmps19
  go_wp2_with fail
  go_loop [3] (fun i => ∃ (j : Nat), j ≤ n ∧ i = .int .i64 (j : Nat) ∧ Hid (NoBigA l j)) (fun i => n - (intOf i).toNat)
  case atStart => exact ⟨0, by omega, rfl, (fun k h h' => absurd h' (by omega) : NoBigA l 0)⟩
  case round =>
    obtain ⟨j, hj, rfl, HJ⟩ := hrel
    by_cases hjn : j < n
    · have hjl : j < l.length := by rw [HL.out.1]; exact hjn
      obtain ⟨b, off, rfl, hlt, p0, p1, p2⟩ := hr.act HL.out.1 hjn
      obtain ⟨y, hy⟩ : ∃ y, l[j] = y := ⟨_, rfl⟩
      rw [hy] at p0 p1 p2
      have HY := Lib.hid hy; clear hy
      obtain ⟨ak, an, ad⟩ := y
      simp only at p0 p1 p2
      go_wp2_with fail
      all_goals first
        | (go_ret
           have hb : Pl.bigA l[j] = true := by rw [HY.out]; exact decide_eq_true (by simp only; omega)
           refine ⟨?_, rfl⟩
           rw [← HL.out.2]
           unfold Pl.greatA
           rw [List.any_eq_true.2 ⟨l[j], List.getElem_mem hjl, hb⟩]; rfl)
        | (go_round
           case rel =>
             refine ⟨j + 1, by omega, by go_num, Lib.hid (show NoBigA l (j + 1) from ?_)⟩
             intro k hk hkj
             rcases Nat.lt_or_ge k j with h1 | h1
             · exact HJ.out k hk h1
             · obtain rfl : k = j := by omega
               rw [HY.out]; exact decide_eq_false (by simp only; omega)
           case measure => simp [intOf]; omega)
    · obtain rfl : j = n := by omega
      have hA : l.any Pl.bigA = false := by
        rw [List.any_eq_false]
        intro o ho
        obtain ⟨k, hk, rfl⟩ := List.getElem_of_mem ho
        simp [HJ.out k hk (by rw [← HL.out.1]; exact hk)]
      have hG : decide (20 < j) = G := by
        rw [← HL.out.2]
        unfold Pl.greatA
        rw [hA, HL.out.1]; simp
      have HG := Lib.hid hG; clear hG hA
      go_wp2_with fail
      go_ret
      refine ⟨?_, rfl⟩
      show Ending.returned (Value.bool _) = Ending.returned (Value.bool _)
      congr 2
      rw [← HG.out, Bool.eq_iff_iff]
      simp
      try omega
section
variable {H : Type} {enc : TypeId × Value → H} {W : World} {base : Nat} {sp : Nat → Bool} {held : Bool}
def ActCell (cs : List Value) : Prop := ∃ o : Pl.Act, cs = actC o ∧ True
set_option maxRecDepth 100000 in
theorem read_act (fuel : Nat) (cs : List Value) (x : DataW H × List MemPlace) (h : DataW.trod enc Try.prog W base sp held fuel 46 cs = some x) (hz : ∀ m ∈ x.1.weights Try.prog 46, m ≤ reachBytes) : ActCell cs := by
  have hl : cs.length = 3 := (struct_len Try.underlying46 h).trans (by kernel_rfl)
  match cs, hl with
  | [c0, c1, c2], _ =>
    obtain ⟨n0, y0, h0, z0⟩ := struct_field Try.underlying46 h hz 0 _ rfl
    obtain ⟨n1, y1, h1, z1⟩ := struct_field Try.underlying46 h hz 1 _ rfl
    obtain ⟨n2, y2, h2, z2⟩ := struct_field Try.underlying46 h hz 2 _ rfl
    obtain ⟨m0, e0, -, -⟩ := DataW.trod_int Try.underlying3 (cs := [c0]) h0
    obtain ⟨s1, e1, b1⟩ := read_str n1 [c1] y1 h1 z1
    obtain ⟨s2, e2, b2⟩ := read_str n2 [c2] y2 h2 z2
    simp only [List.cons.injEq, and_true] at e0 e1 e2
    subst e0 e1 e2
    exact ⟨⟨m0, s1, s2⟩, rfl, trivial⟩
set_option maxRecDepth 100000 in
theorem open_acts {v : Value} {d : DataW H} {p : List MemPlace} {r : Reach} {b0 : Nat} (hv : Value.okWide Try.prog W r b0 43 v) (h : DataW.Trod enc Try.prog W base sp held 43 v d p)
    (hz : ∀ m ∈ d.weights Try.prog 43, m ≤ reachBytes) :
    ∃ (A : Option Addr) (n c : Nat) (l : List Pl.Act), v = .slice A n c ∧ l.length = n ∧ Rd W 3 A n (actCs l) ∧ n ≤ 140737488355328 := by
  obtain ⟨a0, len, cap, rfl⟩ := okWide_slice Try.underlying43 hv
  obtain ⟨fuel, hf⟩ := h
  obtain ⟨A, n, c, L, hcs, hl, hk, hr, hc, hc', hb, -, hL⟩ := open_elems Try.underlying43 (k := 3) (by kernel_rfl) (by omega) ActCell read_act hf hz
  obtain ⟨Y, rfl, hY⟩ := list_choose actC (fun _ => True) L hL
  simp [Value.cells] at hcs
  obtain ⟨rfl, rfl, rfl⟩ := hcs
  have hb' : Try.prog.bytesOf 46 = 40 := by kernel_rfl
  rw [hb'] at hb
  have hR := reach_le
  rw [List.length_map] at hl
  refine ⟨a0, len, cap, Y, rfl, hl, ?_, by omega⟩
  rw [show actCs Y = (Y.map actC).flatten by simp [actCs, List.flatMap_def]]
  exact hr
end
end Go.Proofs.Ytnapokalopcdkaa
