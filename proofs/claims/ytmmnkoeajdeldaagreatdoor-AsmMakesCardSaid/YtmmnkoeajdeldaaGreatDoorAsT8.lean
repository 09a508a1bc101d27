/- The assembler's tokens of a line. The condition: where strconv's error of range lies. -/
import Derived.Test.YtmmnkoeajdeldaaGreatDoorAsT7
namespace Go.Proofs.YtmmnkoeajdeldaaGreatDoor
open Go.RowKit Go.Maps Go.WideMaps
set_option linter.unusedVariables false
set_option linter.unusedSimpArgs false
attribute [local go_sem] ba_get ba_cut ba_add fld_k fld_s fld_n
/-- append of one element of k cells to a row of the call's own. -/
theorem push_k {P : Program} {ops : Array Oper} {rest : List Oper} {o : Oper} {a : Act} {Q : Exit → Act → World → Prop} (hgd : o.guard = none) (s x : Operand) (t : TypeId)
    (ho : o.op = .call { callee := .builtin .append, args := #[s, x], argTypes := #[t, t] })
    (base : Nat) (e : TypeId) (z : Value) (k bytes : Nat) (ht : P.underlying t = some (.slice e)) (hi : (P.info? e).map (fun i => (i.zero, i.size, i.bytes)) = some (some z, k, bytes)) (hzs : z.cells.size = k) (hk : 0 < k)
    (w : World) (v : Value) (n : Nat) (xs ys : List Value) (hyl : ys.length = k) (hs : a.eval s = v) (hown : w.ownsRow base e k v n xs) (hx : a.eval x = .slice (some ⟨w.heap.size, 0, none⟩) 1 1) (h1 : ∀ u ∈ ys, u.oneCell' = true)
    (hbytes : (n + 1) * bytes ≤ 140737488355328) (hb0 : 1 ≤ bytes) (hbase : base ≤ w.heap.size)
    (h : ∀ A' c' w', w'.ownsRow base e k (.slice A' (n + 1) c') (n + 1) (xs ++ ys) → Below base w w' → wpList P ops Q rest (a.put o.dst (.slice A' (n + 1) c')) w') : wpList P ops Q (o :: rest) a (w.alloc (.cells ys.toArray e)) := by
  have hr : Rd (w.alloc (.cells ys.toArray e)) k (some ⟨w.heap.size, 0, none⟩) 1 ys :=
    ⟨by omega, fun _ => ⟨w.heap.size, 0, rfl, by simp, fun j hj => by rw [cell_row _ _ (0 + j) _ _ (heap_alloc_new _ _)]; simp⟩⟩
  have hb : Below w.heap.size w (w.alloc (.cells ys.toArray e)) := (Below.refl _ _).alloc (Nat.le_refl _) _
  refine push_many hgd s x t ho base e z k bytes ht hi hzs hk _ v n xs _ 1 1 ys hs (own_below hown hb) hx hr (fun h => by cases h) h1 hbytes hb0 (Nat.le_trans hbase hb.size) ?_
  intro v' w' h2 h3
  obtain ⟨A', c', rfl⟩ := own_form' h2
  exact h A' c' w' h2 ((hb.mono hbase).trans h3)
theorem info_tk3 : (Tryz.prog.info? 115).map (fun i => (i.zero, i.size, i.bytes)) = some (some (.agg #[.int .i64 0, .string ⟨#[]⟩, .int .i64 0]), 3, 32) := by kernel_rfl
theorem tksC_app : ∀ a b : List Pl.Tk, tksC (a ++ b) = tksC a ++ tksC b
  | [], b => rfl
  | t :: r, b => by simp [tksC, tksC_app r b]
/-- A line's tokens were read; nothing that was there is turned. -/
def TksQ (w : World) (ln : Nat) (E : Option (List Pl.Tk)) (x : Ending) (w' : World) : Prop := Below w.heap.size w w' ∧ match E with
  | none => Thrown 3 ln x
  | some l => ∃ v, x = .returned v ∧ w'.ownsRow w.heap.size 115 3 v l.length (tksC l)
set_option maxRecDepth 100000 in
set_option maxHeartbeats 1000000 in
theorem scan_any (A ln : Nat) (Z : AsV) (l : List UInt8) (w : World) (H : AsB w A ln Z) (hl : l.length ≤ 1000000) (hv : IsErr 6 w) : Calls Tryz.prog 27 #[.pointer (some ⟨A, 0, none⟩), .string ⟨l.toArray⟩] w (TksQ w ln (Pl.toks l)) := by
  obtain ⟨R, hR⟩ : ∃ R, Pl.toks l = R := ⟨_, rfl⟩
  rw [hR]
  have HR := Lib.hid hR
  have HH := Lib.hid (And.intro H hv)
  obtain ⟨B, hB⟩ : ∃ B, w.heap.size = B := ⟨_, rfl⟩
  have hAB : A < B := by rw [← hB]; exact H.lt
  clear hR H hv
  go_enter Tryz.func27, Tryz.ntmps27
  go_wp2_with fail
  go_loopw [5, 6] (fun v i wr => ∃ (k : Nat) (ts : List Pl.Tk), k ≤ l.length ∧ ts.length ≤ k ∧ i = .int .i64 (k : Int) ∧ wr.ownsRow B 115 3 v ts.length (tksC ts) ∧ Below B w wr ∧ Hid ((Pl.toks (l.drop k)).map (fun y => ts ++ y) = R)) (fun _ i _ => l.length - (intOf i).toNat)
  case atStart =>
    refine ⟨0, [], by omega, by simp, rfl, ⟨rfl, .inl ⟨rfl, rfl⟩⟩, Below.refl _ _, Lib.hid ?_⟩
    rw [← HR.out, List.drop_zero]
    cases Pl.toks l <;> rfl
  case round =>
    obtain ⟨k, ts, hk, htk, rfl, hown, hb, HK⟩ := hrel
    obtain ⟨vA, vc, rfl⟩ := own_form' hown
    by_cases hkl : k < l.length
    · have hcons : Pl.toks (l.drop k) = Pl.toks (l[k] :: l.drop (k + 1)) := by rw [List.drop_eq_getElem_cons hkl]
      rw [Pl.toks_cons] at hcons
      have hdk : l[k] :: l.drop (k + 1) = l.drop k := by rw [List.drop_eq_getElem_cons hkl]
      rw [hdk] at hcons
      obtain ⟨c, hc⟩ : ∃ c, l[k] = c := ⟨_, rfl⟩
      rw [hc] at hcons
      have hix : ∀ W', (Instr.index 9 (.string ⟨l.toArray⟩) (.int .i64 (k : Int))).run Tryz.prog W' = .ok (.int .u8 (c.toNat : Int)) W' := by
        intro W'
        rw [← hc]
        simp [go_sem, hkl]
      have HK2 := HK.out
      rw [hcons] at HK2
      have hcl := c.toNat_lt
      obtain ⟨x, hx⟩ : ∃ x, c.toNat = x := ⟨_, rfl⟩
      rw [hx] at hix hcl HK2
      clear hcons HK hx hc hdk
      by_cases h1 : x = 35
      · rw [if_pos h1] at HK2
        subst h1
        have hRn : R = some ts := by rw [← HK2]; simp
        have HN := Lib.hid (And.intro hown (And.intro hb hRn))
        clear HK2 hown hb hRn
        go_wp2_with fail
        go_ret
        rw [HN.out.2.2]
        exact ⟨by rw [hB]; exact HN.out.2.1, _, rfl, by rw [hB]; exact HN.out.1⟩
      rw [if_neg h1] at HK2
      have e1 : ((x : Int) == 35) = false := by simp; omega
      by_cases h2 : x = 32 ∨ x = 9
      · rw [if_pos h2] at HK2
        have HN := Lib.hid (And.intro hown (And.intro hb HK2))
        clear HK2 hown hb h1
        rcases h2 with rfl | rfl
        all_goals
          go_wp2_with fail
          exact ⟨⟨k + 1, ts, by omega, by omega, ret_i (by omega), HN.out.1, HN.out.2.1, Lib.hid HN.out.2.2⟩, by simp only [intOf]; omega⟩
      rw [if_neg h2] at HK2
      have e2 : ((x : Int) == 32) = false := by simp; omega
      have e3 : ((x : Int) == 9) = false := by simp; omega
      have hBw : B ≤ wr.heap.size := by rw [← hB]; exact hb.size
      have HB1 := HH.out.1.below hb hAB
      have HV1 : IsErr 6 wr := HH.out.2.below (by rw [hB]; exact hb)
      have HT := Lib.hid (token_any A ln Z l k wr HB1 hl hkl HV1)
      have hpos := fun t n => @Pl.tok_pos (l.drop k) t n
      obtain ⟨E, hE⟩ : ∃ E, Pl.tokN (l.drop k) = E := ⟨_, rfl⟩
      rw [hE] at HK2 HT hpos
      have HN := Lib.hid (And.intro hown (And.intro hb HK2))
      clear hE HK2 hown hb h1 h2 HB1 HV1
      rcases E with _ | ⟨t, n⟩
      · have hRn : R = none := HN.out.2.2.symm
        clear hpos
        go_wp2_with fail
        (with_reducible refine HT.out.mono ?_)
        rintro e w2 ⟨hb2, rfl⟩
        subst hRn
        exact ⟨rfl, by rw [hB]; exact HN.out.2.1.trans (hb2.mono hBw), rfl⟩
      · obtain ⟨p1, p2⟩ := hpos t n rfl
        rw [List.length_drop] at p2
        clear hpos
        go_wp2_with fail
        (with_reducible refine HT.out.mono ?_)
        rintro e w2 ⟨hb2, rfl⟩
        rw [show tkV t = .agg #[.int .i64 (t.k : Int), .string ⟨t.s.toArray⟩, .int .i64 t.n] from rfl]
        have hown2 := own_below HN.out.1 hb2
        have hbE : Below B w w2 := HN.out.2.1.trans (hb2.mono hBw)
        have hBw2 := hb2.size
        have HO := Lib.hid (And.intro hown2 hbE)
        clear hown2 hbE hb2 HT
        go_upto_region 9 with (fail)
        generalize hW : w2.alloc _ = W1
        obtain ⟨C, hC⟩ : ∃ C, w2.heap.size = C := ⟨_, rfl⟩
        have hz1 : W1.heap[C]? = some (.cells (tkL t).toArray 115 (0, 0)) := by rw [← hW, ← hC]; exact heap_alloc_new _ _
        have hb1 : Below w2.heap.size w2 W1 := by rw [← hW]; exact (Below.refl _ _).alloc (Nat.le_refl _) _
        rw [hC] at hBw2 ⊢
        have c0 : W1.cell? ⟨C, 0, none⟩ = some (.int .i64 (t.k : Int)) := by rw [cell_row W1 C 0 _ _ hz1]; rfl
        have c1 : W1.cell? ⟨C, 1, none⟩ = some (.string ⟨t.s.toArray⟩) := by rw [cell_row W1 C 1 _ _ hz1]; rfl
        have c2 : W1.cell? ⟨C, 2, none⟩ = some (.int .i64 t.n) := by rw [cell_row W1 C 2 _ _ hz1]; rfl
        have hown1 := own_below HO.out.1 hb1
        have hbE1 : Below B w W1 := HO.out.2.trans (hb1.mono (by omega))
        have hBW : B ≤ W1.heap.size := by rw [← hB]; exact hbE1.size
        have HP := Lib.hid (And.intro hown1 (And.intro hbE1 (And.intro hBW (tkL_one t))))
        clear hW hz1 hb1 hown1 hbE1 hBW HO
        go_wp2_with (at_builtin; refine push_k rfl (.tmp 34) (.tmp 36) 57 rfl B 115 (.agg #[.int .i64 0, .string ⟨#[]⟩, .int .i64 0]) 3 32 Tryz.underlying57 info_tk3 rfl (by decide) W1 _ _ _ (tkL t) rfl rfl HP.out.1 rfl HP.out.2.2.2 (by omega) (by decide) HP.out.2.2.1 ?_; intro A1 cc w3 hown3 hb3; have HQ := Lib.hid (And.intro hown3 hb3); clear hown3 hb3)
        refine ⟨⟨k + n, ts ++ [t], by omega, by simp; omega, ret_i (by omega), ?_, HP.out.2.1.trans HQ.out.2, Lib.hid ?_⟩, by simp only [intOf]; omega⟩
        · have h := HQ.out.1
          rw [List.length_append, tksC_app]
          simpa [tksC] using h
        · rw [← HN.out.2.2]
          simp only [Option.map_map, List.drop_drop]
          congr 1
          funext y
          simp
    · have hRn : R = some ts := by rw [← HK.out, List.drop_eq_nil_of_le (by omega), Pl.toks_nil]; simp
      have HN := Lib.hid (And.intro hown (And.intro hb hRn))
      clear hown hb hRn
      go_wp2_with fail
      go_ret
      rw [HN.out.2.2]
      exact ⟨by rw [hB]; exact HN.out.2.1, _, rfl, by rw [hB]; exact HN.out.1⟩
end Go.Proofs.YtmmnkoeajdeldaaGreatDoor
