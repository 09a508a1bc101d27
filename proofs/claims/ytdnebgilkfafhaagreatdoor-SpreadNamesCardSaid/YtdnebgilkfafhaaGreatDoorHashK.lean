/- The walk of hash's add: more bytes. No condition. The walks of hash's end, begin and Keyed. No condition. The walk of hash's end: the digest. No condition. The walk of hash's Keyed: the digest of parts under a key. No condition but that no part is longer than 2^62 bytes. The walk of hash's Sum: the digest of parts. No condition. -/
import Derived.Test.YtdnebgilkfafhaaGreatDoorHashT
import Derived.Lib.LazyBuf
import Derived.Lib.EndianMore
namespace Go.Proofs.YtdnebgilkfafhaaGreatDoor
open Go.RowKit
set_option linter.unusedVariables false
set_option linter.unusedSimpArgs false
/-- A digest that is being made, as it may be. -/
structure BlkOk (s : Pl.Blk) : Prop where
  h : Pl.All32 s.h
  f : s.fill ≤ 64
  t : s.taken < 18446744073709551616
def Sx (W : World) (S : Nat) (s : Pl.Blk) : Prop := StBox W S s.h s.b s.fill s.taken
theorem VHash.kept {w w' : World} {S : Nat} {h : List Nat} {b : List UInt8} {f t : Nat} (hv : VHash w) (H : StBox w S h b f t) (hg : w.grownBy w' (some S)) : VHash w' := by
  have hs : (stL h b f t).toArray.size = 74 := by rw [List.size_toArray]; simp [stL, u32s_len, u8s_len, H.hl, H.bl]
  exact hv.beside H.at_ (by rw [hs]; decide) (by rw [hs]; decide) hg
theorem grown_cells (B : Nat) : ∀ (vs : List Value) (o : Nat) (W : World), W.grownBy (W.setCells B o vs) (some B)
  | [], _, W => World.grownBy.refl W _
  | v :: r, o, W => (grown_set W B o v).trans (grown_cells B r (o + 1) _)
theorem lay_len (b : List UInt8) (f : Nat) (p : List UInt8) (h : f + p.length ≤ b.length) : (Pl.layB b f p).length = b.length := by
  unfold Pl.layB
  simp only [List.length_append, List.length_take, List.length_drop]
  omega
theorem StBox.lay {W : World} {S : Nat} {h : List Nat} {b : List UInt8} {f t : Nat} (H : StBox W S h b f t) (o : Nat) (p : List UInt8) (hp : o + p.length ≤ 64) : StBox (W.setCells S (8 + o) (u8s p)) S h (Pl.layB b o p) f t := by
  have hl := H.hl
  have bl := H.bl
  refine ⟨?_, hl, by rw [lay_len _ _ _ (by omega)]; exact bl⟩
  have e := heap_setCells_mid (u8s p) (8 + o) W (stL h b f t) H.at_ (by simp only [stL, List.length_append, u32s_len, u8s_len, List.length_cons, List.length_nil]; omega)
  rw [e]
  congr 3
  have h1 : (stL h b f t).take (8 + o) = u32s h ++ u8s (b.take o) := by
    unfold stL
    rw [List.take_append, List.take_of_length_le (by rw [u32s_len]; omega), u32s_len, hl, Nat.add_sub_cancel_left, List.take_append_of_le_length (by rw [u8s_len]; omega)]
    simp [u8s, List.map_take]
  have h2 : (stL h b f t).drop (8 + o + (u8s p).length) = u8s (b.drop (o + p.length)) ++ [.int .i64 (f : Int), .int .u64 (t : Int)] := by
    unfold stL
    rw [u8s_len, show 8 + o + p.length = 8 + (o + p.length) by omega, List.drop_append, List.drop_of_length_le (by rw [u32s_len]; omega), List.nil_append, u32s_len, hl, Nat.add_sub_cancel_left, List.drop_append_of_le_length (by rw [u8s_len]; omega)]
    simp [u8s, List.map_drop]
  rw [h1, h2]
  simp [stL, Pl.layB, u8s]
theorem run_copy_min {P : Program} (w : World) (dT sT ty elem : TypeId) (b o dLen dCap : Nat) (t : List UInt8)
    (hu : P.underlying dT = some (.slice elem)) (hz : ∀ w, (Go.sizeOf elem).run P w = .ok 1 w)
    (hc : ∀ j, j < (t.take dLen).length → (w.cell? ⟨b, o + j, none⟩).isSome = true) (hf : ∀ j, j < (t.take dLen).length → w.frozen? ⟨b, o + j, none⟩ = false) :
    (Builtin.copy_ #[dT, sT] ty #[.slice (some ⟨b, o, none⟩) dLen dCap, .string ⟨t.toArray⟩]).run P w = .ok (goInt (t.take dLen).length) (w.setCells b o (u8s (t.take dLen))) := by
  have hl : (u8s (t.take dLen)).length = (t.take dLen).length := u8s_len _
  have hst := run_storeCells_cells (P := P) b o (u8s (t.take dLen)) 0 w (by rw [hl]; simpa using hc) (by rw [hl]; simpa using hf) (u8s_one _)
  have hmin : Nat.min t.length dLen = (t.take dLen).length := by rw [List.length_take, Nat.min_comm]
  have hk : (List.map (fun x => Value.int .u8 (x.toNat : Int)) t).take (t.take dLen).length = u8s (t.take dLen) := by
    unfold u8s
    rw [← List.map_take]
    congr 1
    rw [List.length_take]
    rcases Nat.le_total dLen t.length with h | h
    · rw [Nat.min_eq_left h]
    · rw [Nat.min_eq_right h]; exact (List.take_of_length_le (Nat.le_refl _)).trans (List.take_of_length_le h).symm
  have hmin' : (⟨t.toArray⟩ : ByteArray).size.min dLen = (t.take dLen).length := hmin
  simp only [Nat.add_zero] at hst
  simp [Builtin.copy_, run_underlying hu, Builtin.lenOf, Builtin.firstCells, hz]
  rw [hmin', hk, hst]
  simp [Result.andThen]
theorem step_copy_min {P : Program} {ops : Array Oper} {o : Oper} {a : Act} {w : World} {K : Act → World → Prop} {Q : Exit → Act → World → Prop} {E : Prop}
    (hg : o.guard = none) (d x : Operand) (dT sT : TypeId) (hop : o.op = Op.call { callee := Callee.builtin Builtin.copy, args := #[d, x], argTypes := #[dT, sT] })
    (elem : TypeId) (hu : P.underlying dT = some (.slice elem)) (hz : ∀ w, (Go.sizeOf elem).run P w = .ok 1 w)
    (b off dLen dCap : Nat) (hd : a.eval d = .slice (some ⟨b, off, none⟩) dLen dCap) (t : List UInt8) (hx : a.eval x = .string ⟨t.toArray⟩)
    (hc : ∀ j, j < (t.take dLen).length → (w.cell? ⟨b, off + j, none⟩).isSome = true) (hf : ∀ j, j < (t.take dLen).length → w.frozen? ⟨b, off + j, none⟩ = false)
    (hK : K (a.put o.dst (goInt (t.take dLen).length)) (w.setCells b off (u8s (t.take dLen)))) :
    if Region.wanted o (yielded ops a.tmps) = true then Oper.wp P o a w K Q else E := by
  have hw : Region.wanted o (yielded ops a.tmps) = true := by simp [Region.wanted, hg]
  rw [if_pos hw]
  have hrun := run_copy_min (P := P) w dT sT o.type elem b off dLen dCap t hu hz hc hf
  obtain ⟨N, hN⟩ : ∃ N, (t.take dLen).length = N := ⟨_, rfl⟩
  rw [hN] at hrun hK
  unfold Oper.wp
  simp [execOp, hop, resolve, invoke, builtin, hd, hx, hrun, Result.andThen]
  exact hK
theorem startV_all {h : List Nat} (hA : Pl.All32 h) (t : Nat) (l : Bool) : Pl.All32 (Pl.startV h t l) := by
  have h1 : Pl.All32 ((h ++ Pl.eight).set 12 ((h ++ Pl.eight).getD 12 0 ^^^ t % 4294967296)) := (app_all hA eight_all).set 12 (Pl.xor_lt (app_all hA eight_all 12) (Nat.mod_lt _ (by decide)))
  have h2 : Pl.All32 (((h ++ Pl.eight).set 12 ((h ++ Pl.eight).getD 12 0 ^^^ t % 4294967296)).set 13 (((h ++ Pl.eight).set 12 ((h ++ Pl.eight).getD 12 0 ^^^ t % 4294967296)).getD 13 0 ^^^ t / 4294967296 % 4294967296)) := h1.set 13 (Pl.xor_lt (h1 13) (Nat.mod_lt _ (by decide)))
  have h3 := h2.set 14 (x := 4294967295 - (((h ++ Pl.eight).set 12 ((h ++ Pl.eight).getD 12 0 ^^^ t % 4294967296)).set 13 (((h ++ Pl.eight).set 12 ((h ++ Pl.eight).getD 12 0 ^^^ t % 4294967296)).getD 13 0 ^^^ t / 4294967296 % 4294967296)).getD 14 0) (Nat.lt_of_le_of_lt (Nat.sub_le _ _) (by decide))
  unfold Pl.startV
  cases l
  · simp only [Bool.false_eq_true, if_false]; exact h2
  · simp only [if_true]; exact h3
theorem rounds_all (m : List Nat) (R : List (List Nat)) : ∀ {v : List Nat}, Pl.All32 v → Pl.All32 (R.foldl (Pl.roundL m) v) := by
  induction R with
  | nil => intro v h; rw [List.foldl_nil]; exact h
  | cons r R ih =>
    intro v h
    rw [List.foldl_cons]
    exact ih (Pl.roundL_all h r)
theorem takeB_all {h : List Nat} (hA : Pl.All32 h) (b : List UInt8) (t : Nat) (l : Bool) : Pl.All32 (Pl.takeB h b t l) := by
  have hv := rounds_all (Pl.words16 b) Pl.rowsB (startV_all hA t l)
  intro i
  unfold Pl.takeB
  rw [List.getD_eq_getElem?_getD]
  rcases Nat.lt_or_ge i 8 with hi | hi
  · rw [List.getElem?_map, List.getElem?_range hi]
    exact Pl.xor_lt (hA i) (Pl.xor_lt (hv _) (hv _))
  · rw [List.getElem?_eq_none (by simpa using hi)]; decide
theorem full_ok {s : Pl.Blk} (h : BlkOk s) : BlkOk s.full := by
  unfold Pl.Blk.full
  split
  · exact ⟨takeB_all h.h _ _ _, Nat.zero_le _, Nat.mod_lt _ (by decide)⟩
  · exact h
theorem full_lt {s : Pl.Blk} (h : BlkOk s) : s.full.fill < 64 := by
  have := h.f
  unfold Pl.Blk.full
  split
  · exact Nat.zero_lt_succ _
  · omega
theorem lay_ok {s : Pl.Blk} (h : BlkOk s) (p : List UInt8) : BlkOk (s.lay p) := by
  have := h.f
  refine ⟨h.h, ?_, h.t⟩
  simp only [Pl.Blk.lay, List.length_take]
  omega
theorem addF_more : ∀ (k : Nat) (s : Pl.Blk), Pl.Blk.addF k s [] = s
  | 0, s => rfl
  | k + 1, s => by simp [Pl.Blk.addF]
set_option maxRecDepth 1000000 in
set_option maxHeartbeats 4000000 in
theorem add_any (S : Nat) (s : Pl.Blk) (hs : BlkOk s) (p : List UInt8) (hp : p.length < 4611686018427387904) (w : World) (H : Sx w S s) (hv : VHash w) :
    Calls Tryz.prog 68 #[.pointer (some ⟨S, 0, none⟩), .string ⟨p.toArray⟩] w
      (fun e w' => e = .returned (.tuple #[]) ∧ Sx w' S (s.add p) ∧ BlkOk (s.add p) ∧ w.grownBy w' (some S)) := by
  have hS := StBox.lt H
  have HH := Lib.hid H
  have HV := Lib.hid hv
  clear H hv
  go_enter Tryz.func68, Tryz.ntmps68
  go_wp2_with fail
  go_loopw [1] (fun i wr => ∃ (q : List UInt8) (z : Pl.Blk) (k : Nat), i = .string ⟨q.toArray⟩ ∧ q.length ≤ p.length ∧ q.length ≤ k ∧ BlkOk z ∧ Hid (Pl.Blk.addF k z q = s.add p) ∧ Hid (Sx wr S z) ∧ Hid (w.grownBy wr (some S)) ∧ Hid (VHash wr)) (fun i _ => strLen i)
  case atStart => exact ⟨p, s, p.length, rfl, Nat.le_refl _, Nat.le_refl _, hs, rfl, HH.out, World.grownBy.refl _ _, HV.out⟩
  case round =>
    obtain ⟨q, z, k, rfl, hq, hqk, hz, HE, HS, HG, HW⟩ := hrel
    by_cases hq0 : q.length = 0
    · obtain rfl : q = [] := List.eq_nil_of_length_eq_zero hq0
      have HR : Hid (z = s.add p) := by have := HE.out; rwa [addF_more] at this
      go_wp2_with fail
      refine bodyPost_end (results_none rfl _ _ _) rfl ?_
      rw [← HR.out]
      exact ⟨rfl, HS.out, hz, HG.out⟩
    · have hq1 : decide (0 < q.length) = true := by simpa using Nat.pos_of_ne_zero hq0
      have hzf := hz.f
      obtain ⟨zh, zb, zf, zt⟩ := z
      dsimp only at hzf
      obtain ⟨t1, ht1⟩ : ∃ t1, (zt + 64) % 18446744073709551616 = t1 := ⟨_, rfl⟩
      by_cases hf : zf = 64
      case' pos =>
        have hcf : wr.cell? ⟨S, 72, none⟩ = some (.int .i64 ((64 : Nat) : Int)) := by rw [← hf]; exact HS.out.cf
        have hct := HS.out.ct
        dsimp only at hct
        have hfr := HS.out.froz 73
        have e1 : IntKind.u64.wrap ((zt : Int) + 64) = (t1 : Int) := by rw [IntKind.wrap_u64]; omega
        have l1 : t1 < 18446744073709551616 := by omega
        have HT := Lib.hid (StBox.set_t HS.out t1)
        have HE1 : Hid (Pl.Blk.full ⟨zh, zb, zf, zt⟩ = ⟨Pl.takeB zh zb t1 false, zb, 0, t1⟩) := by unfold Pl.Blk.full; rw [if_pos hf, ht1]; rfl
        have HA := Lib.hid hz.h
        have HW1 := Lib.hid (HW.out.kept HS.out (grown_set wr S 73 (.int .u64 (t1 : Int))))
        have HF := Lib.hid hf
        have HT1 := Lib.hid ht1
        clear hf ht1
        go_wp2_with fail
        have HC := Lib.hid (take_any S zh zb zf t1 l1 false _ HT.out HA.out HW1.out)
        with_reducible refine HC.out.mono ?_
        rintro _ W1 ⟨rfl, hx1, hg1⟩
        have hfr1 := hx1.froz 72
        have hcf1 := hx1.cf
        have HX1 := Lib.hid (show Sx _ S (Pl.Blk.full ⟨zh, zb, zf, zt⟩) by rw [HE1.out]; exact hx1.set_f 0)
        have HW2 := Lib.hid ((HW1.out.kept HT.out hg1).kept hx1 (grown_set _ S 72 (.int .i64 ((0 : Nat) : Int))))
        have HG1 := Lib.hid (((HG.out.trans (grown_set wr S 73 (.int .u64 (t1 : Int)))).trans hg1).trans (grown_set _ S 72 (.int .i64 ((0 : Nat) : Int))))
        clear hx1 hg1 hct hfr hcf HC HT
        go_upto_region 5 with (fail)
        obtain ⟨X, hX⟩ : ∃ X, W1.setCell ⟨S, 72, none⟩ (.int .i64 ((0 : Nat) : Int)) = X := ⟨_, rfl⟩
        have hX0 : W1.setCell ⟨S, 72, none⟩ (.int .i64 0) = X := hX
        rw [hX] at HX1 HW2 HG1
        rw [hX0]
        clear hX hX0 hfr1 hcf1 HE1 HA HW1 HF HT1 e1 l1
      case' neg =>
        have HE1 : Hid (Pl.Blk.full ⟨zh, zb, zf, zt⟩ = ⟨zh, zb, zf, zt⟩) := by unfold Pl.Blk.full; rw [if_neg hf]; rfl
        have hcf := HS.out.cf
        dsimp only at hcf
        have hne : ((zf : Int) == 64) = false := by simp; omega
        go_upto_region 5 with (fail)
        have HX1 := Lib.hid (show Sx wr S (Pl.Blk.full ⟨zh, zb, zf, zt⟩) by rw [HE1.out]; exact HS.out)
        have HW2 := Lib.hid HW.out
        have HG1 := Lib.hid HG.out
        obtain ⟨X, hX⟩ : ∃ X, wr = X := ⟨_, rfl⟩
        rw [hX] at HX1 HW2 HG1 ⊢
        clear hX
        clear hcf HE1 hf hne ht1
      all_goals
        clear HH HS HV HW hS hq0 hzf
        obtain ⟨y, hy⟩ : ∃ y, Pl.Blk.full ⟨zh, zb, zf, zt⟩ = y := ⟨_, rfl⟩
        have hyl : y.fill < 64 := by rw [← hy]; exact full_lt hz
        have hyo : BlkOk y := by rw [← hy]; exact full_ok hz
        have HY : Hid (∀ c, q.length ≤ c + 1 → Pl.Blk.addF (c + 1) ⟨zh, zb, zf, zt⟩ q = Pl.Blk.addF c (y.lay q) (q.drop (64 - y.fill))) := by
          intro c hc
          rw [Pl.Blk.addF, if_neg (by intro e; rw [e] at hq1; simp at hq1), hy]
        rw [hy] at HX1
        clear hy hz
        obtain ⟨yf, hyf⟩ : ∃ f, y.fill = f := ⟨_, rfl⟩
        have hcf := HX1.out.cf
        rw [hyf] at hcf hyl
        have i0 : (0 : Int) ≤ (yf : Int) := by omega
        have i1 : (yf : Int) < 64 := by omega
        have i2 : (yf : Int) ≤ 64 := by omega
        have HYF := Lib.hid hyf
        have ne64 : ¬ 64 = yf := by omega
        clear hyf
        go_wp2_with fail
        refine wp_region_held_drew (S := (fun w' => w'.cell? ⟨S, 72, none⟩ = some (.int .i64 (yf : Int)))) (by kernel_rfl) (by exact hcf) (fun hHeld => ?_)
        refine tk 0 (v := ?_) rfl ?_ hHeld ?_
        rotate_left
        · (intro w' hSw; (try dsimp only at hSw); go_simp; try with_reducible rfl)
        simp only [Act.put, lay9]
        refine tk 1 (v := ?_) rfl ?_ hHeld ?_
        rotate_left
        · (intro w' hSw; (try dsimp only at hSw); go_simp; try with_reducible rfl)
        simp only [Act.put, lay9]
        refine tk 2 (v := ?_) rfl ?_ hHeld ?_
        rotate_left
        · (intro w' hSw; (try dsimp only at hSw); go_simp; try with_reducible rfl)
        simp only [Act.put, lay9]
        refine tk 3 (v := ?_) rfl ?_ hHeld ?_
        rotate_left
        · (intro w' hSw; (try dsimp only at hSw); go_simp; try with_reducible rfl)
        simp only [Act.put, lay9]
        refine tk 4 (v := ?_) rfl ?_ hHeld ?_
        rotate_left
        · (intro w' hSw; (try dsimp only at hSw); go_simp; try with_reducible rfl)
        simp only [Act.put, lay9]
        refine tk 5 (v := ?_) rfl ?_ hHeld ?_
        rotate_left
        · (intro w' hSw; (try dsimp only at hSw); go_simp; try with_reducible rfl)
        simp only [Act.put, lay9]
        refine tk 6 (v := ?_) rfl ?_ hHeld ?_
        rotate_left
        · (intro w' hSw; (try dsimp only at hSw); go_simp; try with_reducible rfl)
        simp only [Act.put, lay9]
        refine tk 7 (v := ?_) rfl ?_ hHeld ?_
        rotate_left
        · (intro w' hSw; (try dsimp only at hSw); go_simp; try with_reducible rfl)
        simp only [Act.put, lay9]
        refine tk 8 (v := ?_) rfl ?_ hHeld ?_
        rotate_left
        · (intro w' hSw; (try dsimp only at hSw); go_simp; try with_reducible rfl)
        simp only [Act.put, lay9]
        refine wpAnyH_ready (rs := [9]) (by kernel_rfl) (by simp) (AllReadyH.cons rfl (fun K hK => ?_) AllReadyH.nil)
        have HX2 : Hid (StBox X.drew S y.h y.b yf y.taken) := by rw [← HYF.out]; exact ⟨HX1.out.at_, HX1.out.hl, HX1.out.bl⟩
        have HL := Lib.hid (StBox.lay HX2.out yf (q.take (64 - yf)) (by rw [List.length_take]; omega))
        refine step_copy_min rfl (.tmp 32) (.tmp 33) _ _ rfl 5 Tryz.underlying138 (fun w => by simp [Go.sizeOf, typeInfo, Sem.run_bind, Sem.run_pure]; rfl) S (8 + yf) (64 - yf) (64 - yf) rfl q rfl (fun j hj => ?_) (fun j hj => ?_) ?_
        · rw [List.length_take] at hj
          show (X.drew.cell? ⟨S, 8 + yf + j, none⟩).isSome = true
          have := HX1.out.cb (yf + j) (by omega)
          rw [Nat.add_assoc, show X.drew.cell? ⟨S, 8 + (yf + j), none⟩ = X.cell? ⟨S, 8 + (yf + j), none⟩ from rfl, this]
          rfl
        · exact HX1.out.froz _
        refine hK.out _ _ HL.out.cf (fun hHeld => ?_)
        clear hK K
        (try simp only [Act.put, lay9])
        refine tk 10 (v := ?_) rfl ?_ hHeld ?_
        rotate_left
        · (intro w' hSw; (try dsimp only at hSw); go_simp; try with_reducible rfl)
        simp only [Act.put, lay9]
        refine wpAnyH_done (by kernel_rfl) ?_ _
        have hcf2 := HL.out.cf
        have hfr2 := HL.out.froz 72
        go_wp2_with fail
        go_roundw
        case rel =>
          have hcast : (yf : Int) + ((min (64 - yf) q.length : Nat) : Int) = ((yf + (q.take (64 - yf)).length : Nat) : Int) := by rw [List.length_take]; omega
          have hlay : y.lay q = ⟨y.h, Pl.layB y.b yf (q.take (64 - yf)), yf + (q.take (64 - yf)).length, y.taken⟩ := by unfold Pl.Blk.lay; rw [HYF.out]
          have hst := HL.out.set_f (yf + (q.take (64 - yf)).length)
          have hg2 : X.grownBy ((X.drew.setCells S (8 + yf) (u8s (q.take (64 - yf)))).setCell ⟨S, 72, none⟩ (.int .i64 ((yf + (q.take (64 - yf)).length : Nat) : Int))) (some S) := ((grown_drew (World.grownBy.refl X _)).trans (grown_cells S _ _ _)).trans (grown_set _ _ _ _)
          have hdr : q.drop (min (64 - yf) q.length) = q.drop (64 - yf) := by
            rcases Nat.le_total (64 - yf) q.length with h | h
            · rw [Nat.min_eq_left h]
            · rw [Nat.min_eq_right h, List.drop_of_length_le (Nat.le_refl _), List.drop_of_length_le h]
          refine ⟨q.drop (64 - yf), y.lay q, k - 1, by rw [ba_from, hdr], by rw [List.length_drop]; omega, ?_, lay_ok hyo q, ?_, ?_, ?_, ?_⟩
          · have : 0 < q.length := by simpa using hq1
            rw [List.length_drop]; omega
          · have : 0 < q.length := by simpa using hq1
            have e := HY.out (k - 1) (by omega)
            rw [show k - 1 + 1 = k by omega, HE.out, HYF.out] at e
            exact e.symm
          · rw [hcast, hlay]; exact hst
          · rw [hcast]; exact HG1.out.trans hg2
          · rw [hcast]; exact HW2.out.kept HX1.out hg2
        case measure =>
          have : 0 < q.length := by simpa using hq1
          rw [ba_from]
          simp only [strLen, ByteArray.size, List.size_toArray, List.length_drop]
          omega
end Go.Proofs.YtdnebgilkfafhaaGreatDoor
namespace Go.Proofs.YtdnebgilkfafhaaGreatDoor
open Go.RowKit
set_option linter.unusedVariables false
set_option linter.unusedSimpArgs false
theorem beginB_all (k : Bool) : Pl.All32 (Pl.beginB k) := by
  intro i
  rcases Nat.lt_or_ge i 8 with hi | hi
  · have : ∀ k, ∀ i, i < 8 → (Pl.beginB k).getD i 0 < 4294967296 := by decide
    exact this k i hi
  · rw [List.getD_eq_getElem?_getD, List.getElem?_eq_none (by cases k <;> exact hi)]; decide
/-- The cells of a digest that begins. -/
def newS (k : Bool) : List Value := stL (Pl.beginB k) (List.replicate 64 0) 0 0
theorem zero_st : Tryz.zeroCells125 = (stL (List.replicate 8 0) (List.replicate 64 0) 0 0).toArray := by kernel_rfl
theorem info_st : (Tryz.prog.info? 125).map (·.size) = some 74 := by kernel_rfl
theorem stL_len {h : List Nat} {b : List UInt8} {f t : Nat} (hh : h.length = 8) (hb : b.length = 64) : (stL h b f t).length = 74 := by simp [stL, u32s_len, u8s_len, hh, hb]
theorem stL_one (h : List Nat) (b : List UInt8) (f t : Nat) : ∀ v ∈ stL h b f t, v.oneCell' = true := by
  intro v hv
  simp only [stL, List.mem_append, List.mem_cons, List.not_mem_nil, or_false] at hv
  rcases hv with hv | hv | rfl | rfl
  · exact u32s_one _ v hv
  · exact u8s_one _ v hv
  · rfl
  · rfl
theorem build_st {E : List Nat} {L : List Value} (h : Pl.eight = E) (hL : stL E (List.replicate 64 0) 0 0 = L) (w : World) : (Instr.build 125 #[(0, .agg (u32s E).toArray)]).run Tryz.prog w = .ok (.agg L.toArray) w := by
  subst h
  subst hL
  exact run_build w _ _ _ (by kernel_rfl)
theorem wpList_build_1 {v out : Value} {T : TypeId} {x : Operand} {ops : Array Oper} {rest : List Oper} {op : Oper} {a : Act} {w : World} {Q : Exit → Act → World → Prop} (hb : ∀ W, (Instr.build T #[(0, v)]).run Tryz.prog W = .ok out W) (hgd : op.guard = none) (ho : op.op = .build T #[(0, x)]) (hx : a.eval x = v)
    (h : wpList Tryz.prog ops Q rest (a.put op.dst out) w) : wpList Tryz.prog ops Q (op :: rest) a w :=
  wpList_plain hgd fun _ hK => by
    unfold Oper.wp execOp
    simp only [ho, List.map_toArray, List.map_cons, List.map_nil, hx, Sem.run_bind, hb, Result.andThen_ok, Sem.run_pure]
    exact hK _ _ h
theorem results_one {fn : Func} {tmps : Array Value} {w : World} {a B : Nat} {T : TypeId} {cs : List Value} {d : TypeDesc} (hf : fn.results = #[.cell a T]) (ha : tmps[a]?.getD undef = .pointer (some ⟨B, 0, none⟩)) (hc : w.rangeAt B 0 cs) (hu : Tryz.prog.underlying T = some d) (hd : d.isRow = true) (hi : (Tryz.prog.info? T).map (·.size) = some cs.length) :
    (results fn tmps).run Tryz.prog w = .ok (.agg cs.toArray) w := by
  have h := run_loadVar_mid (P := Tryz.prog) w B 0 T cs d hc hu hd hi
  simp [results, hf, ha, asAddr, h, Sem.run_bind]
theorem eight_0 : Pl.eight.getD 0 0 = 1779033703 := rfl
set_option maxRecDepth 1000000 in
set_option maxHeartbeats 4000000 in
theorem begin_any (k : Bool) (w : World) (hv : VHash w) :
    Calls Tryz.prog 67 #[.bool k] w (fun e w' => e = .returned (.agg (newS k).toArray) ∧ Below w.heap.size w w') := by
  have hb0 : Below w.heap.size w (w.alloc (.cells Tryz.zeroCells125 125)) := (Below.refl _ _).alloc (Nat.le_refl _) _
  have hve := (hv.below hb0).e
  obtain ⟨E8, hE8⟩ : ∃ V, Pl.eight = V := ⟨_, rfl⟩
  rw [hE8] at hve
  have hE8l : E8.length = 8 := by rw [← hE8]; rfl
  obtain ⟨L, hL⟩ : ∃ L, stL E8 (List.replicate 64 0) 0 0 = L := ⟨_, rfl⟩
  have HLl : L.length = 74 := by rw [← hL]; exact stL_len hE8l (by simp)
  have HL1 : ∀ v ∈ L, v.oneCell' = true := by rw [← hL]; exact stL_one _ _ _ _
  have HB := Lib.hid (build_st hE8 hL)
  have hz1 : ((w.alloc (.cells Tryz.zeroCells125 125)).alloc (.cells Tryz.zeroCells125 125)).heap[w.heap.size + 1]? = some (.cells (stL (List.replicate 8 0) (List.replicate 64 0) 0 0).toArray 125 (0, 0)) := by rw [zero_st]; exact heap_alloc_2 w _ _
  have HE8 := Lib.hid hE8
  have HLh := Lib.hid hL
  have HZ1 := Lib.hid hz1
  have HB0 := Lib.hid hb0
  have HE8l := Lib.hid hE8l
  have HLL := Lib.hid HLl
  have HTH := Lib.hid (thereL (n := L.toArray.size) HZ1.out (by rw [List.size_toArray, List.size_toArray, HLL.out, stL_len (by simp) (by simp)]; exact Nat.le_refl _))
  have HIL : Hid ((Tryz.prog.info? 125).map (·.size) = some L.toArray.size) := by rw [List.size_toArray, HLL.out]; exact info_st
  clear hv hb0 hE8 hL hz1 hE8l HLl
  go_enter Tryz.func67, Tryz.ntmps67
  go_upto_region 2 with (first
    | (with_reducible refine wpList_load_mid rfl 90 _ rfl 0 0 rfl (u32s E8) _ hve.range Tryz.underlying90 rfl (by rw [u32s_len, HE8l.out]; exact info_8) ?_)
    | (with_reducible refine wpList_build_1 HB.out rfl rfl rfl ?_)
    | (with_reducible refine wpList_store_mid rfl 125 _ _ rfl (w.heap.size + 1) 0 L.toArray rfl rfl HTH.out HIL.out (all_oneCell_toArray HL1) ?_))
  have HX : Hid (StBox (((w.alloc (.cells Tryz.zeroCells125 125)).alloc (.cells Tryz.zeroCells125 125)).setCells (w.heap.size + 1) 0 L) (w.heap.size + 1) E8 (List.replicate 64 0) 0 0) := by
    refine ⟨?_, HE8l.out, by simp⟩
    rw [HLh.out]
    exact heap_setCells_all HZ1.out (by rw [HLL.out, stL_len (by simp) (by simp)])
  have HR : Hid ((((w.alloc (.cells Tryz.zeroCells125 125)).alloc (.cells Tryz.zeroCells125 125)).setCells (w.heap.size + 1) 0 L).heap[w.heap.size]? = some (.cells Tryz.zeroCells125 125 (0, 0))) := by
    refine ((Lib.below_setCells_w (Nat.le_refl _) _ _ _).block _ (Nat.lt_succ_self _)).trans ?_
    exact (Below.heap_alloc _ _ _ (by simp)).trans (heap_alloc_new w _)
  have HBW : Hid (Below w.heap.size w (((w.alloc (.cells Tryz.zeroCells125 125)).alloc (.cells Tryz.zeroCells125 125)).setCells (w.heap.size + 1) 0 L)) := (HB0.out.alloc (by simp) _).trans (Lib.below_setCells_w (by omega) _ _ _)
  obtain ⟨X, hX⟩ : ∃ X, ((w.alloc (.cells Tryz.zeroCells125 125)).alloc (.cells Tryz.zeroCells125 125)).setCells (w.heap.size + 1) 0 L = X := ⟨_, rfl⟩
  rw [hX] at HX HR HBW ⊢
  clear hX HZ1 HTH HIL HB HB0 hve HL1 HLh HLL
  obtain ⟨x0, hx0⟩ : ∃ z, E8.getD 0 0 = z := ⟨_, rfl⟩
  obtain ⟨x1, hx1⟩ : ∃ z, x0 ^^^ 16842784 = z := ⟨_, rfl⟩
  obtain ⟨x2, hx2⟩ : ∃ z, x1 ^^^ 8192 = z := ⟨_, rfl⟩
  have l0 : x0 < 4294967296 := by rw [← hx0, ← HE8.out]; decide
  have l1 : x1 < 4294967296 := by rw [← hx1]; exact Pl.xor_lt l0 (by decide)
  have ex1 : bits .xor .u32 (x0 : Int) 16842784 = (x1 : Int) := by rw [← hx1]; exact Go.u32_xor_nat _ _ l0 (by decide)
  have ex2 : bits .xor .u32 (x1 : Int) 8192 = (x2 : Int) := by rw [← hx2]; exact Go.u32_xor_nat _ _ l1 (by decide)
  have hq1 : X.cell? ⟨w.heap.size + 1, 0, none⟩ = some (.int .u32 (x0 : Int)) := by rw [HX.out.ch 0 (by decide), hx0]
  have hf1 := HX.out.froz 0
  have HX1 := Lib.hid (HX.out.set_h 0 x1 (by decide))
  have HN : Hid (E8.set 0 (if k then x2 else x1) = Pl.beginB k) := by rw [← hx2, ← hx1, ← hx0, ← HE8.out]; cases k <;> rfl
  clear hx0 hx1 hx2
  obtain ⟨D, hD⟩ : ∃ D, w.heap.size + 1 = D := ⟨_, rfl⟩
  have hRD : w.heap.size < D := by omega
  rw [hD] at HX hq1 hf1 HX1 ⊢
  clear hD
  have HX2 := Lib.hid (HX1.out.set_h 0 x2 (by decide))
  have HB1 := Lib.hid (HBW.out.setCell (p := ⟨D, 0, none⟩) (Nat.le_of_lt hRD) (.int .u32 (x1 : Int)))
  have HB2 := Lib.hid (HB1.out.setCell (p := ⟨D, 0, none⟩) (Nat.le_of_lt hRD) (.int .u32 (x2 : Int)))
  have HR1 : Hid ((X.setCell ⟨D, 0, none⟩ (.int .u32 (x1 : Int))).heap[w.heap.size]? = some (.cells Tryz.zeroCells125 125 (0, 0))) := (Below.heap_setCell _ _ _ _ (Nat.ne_of_lt hRD)).trans HR.out
  have HR2 : Hid (((X.setCell ⟨D, 0, none⟩ (.int .u32 (x1 : Int))).setCell ⟨D, 0, none⟩ (.int .u32 (x2 : Int))).heap[w.heap.size]? = some (.cells Tryz.zeroCells125 125 (0, 0))) := (Below.heap_setCell _ _ _ _ (Nat.ne_of_lt hRD)).trans HR1.out
  cases k
  · go_upto_region 5 with (fail)
    obtain ⟨Y, hY⟩ : ∃ Y, X.setCell ⟨D, 0, none⟩ (.int .u32 (x1 : Int)) = Y := ⟨_, rfl⟩
    rw [hY] at HX1 HR1 HB1 ⊢
    have HE : E8.set 0 x1 = Pl.beginB false := HN.out
    have hat := HX1.out.at_
    skip
    rw [HE] at hat
    obtain ⟨N, hN⟩ : ∃ N, newS false = N := ⟨_, rfl⟩
    rw [show stL (Pl.beginB false) (List.replicate 64 0) 0 0 = N from hN] at hat
    have HNl := Lib.hid (show N.length = 74 by rw [← hN]; exact stL_len (by rfl) (by simp))
    have HN1 := Lib.hid (show ∀ v ∈ N, v.oneCell' = true by rw [← hN]; exact stL_one _ _ _ _)
    have HNN := Lib.hid hN
    have HAT := Lib.hid hat
    have HTH := Lib.hid (thereL (n := N.toArray.size) HR1.out (by rw [zero_st, List.size_toArray, List.size_toArray, HNl.out, stL_len (by simp) (by simp)]; exact Nat.le_refl _))
    have HIL : Hid ((Tryz.prog.info? 125).map (·.size) = some N.toArray.size) := by rw [List.size_toArray, HNl.out]; exact info_st
    clear hN hat hY HX HX1 HX2 HN HE ex1 ex2 hf1 hq1
    go_wp2_with (first
      | (with_reducible refine wpList_load_mid rfl 125 _ rfl D 0 rfl N _ (rangeL HAT.out) Tryz.underlying125 rfl (by rw [HNl.out]; exact info_st) ?_)
      | (with_reducible refine wpList_store_mid rfl 125 _ _ rfl w.heap.size 0 N.toArray rfl rfl HTH.out HIL.out (all_oneCell_toArray HN1.out) ?_))
    have hfin : (Y.setCells w.heap.size 0 N).heap[w.heap.size]? = some (.cells N.toArray 125 (0, 0)) := heap_setCells_all (C := stL (List.replicate 8 0) (List.replicate 64 0) 0 0) (by rw [← zero_st]; exact HR1.out) (by rw [HNl.out, stL_len (by simp) (by simp)])
    refine bodyPost_ret (v := .agg N.toArray) (results_one rfl rfl (rangeL hfin) Tryz.underlying125 rfl (by rw [HNl.out]; exact info_st)) rfl ?_
    rw [HNN.out]
    exact ⟨rfl, HB1.out.trans (Lib.below_setCells_w (Nat.le_refl _) _ _ _)⟩
  · go_upto_region 5 with (fail)
    obtain ⟨Y, hY⟩ : ∃ Y, (X.setCell ⟨D, 0, none⟩ (.int .u32 (x1 : Int))).setCell ⟨D, 0, none⟩ (.int .u32 (x2 : Int)) = Y := ⟨_, rfl⟩
    rw [hY] at HX2 HR2 HB2 ⊢
    have HE : E8.set 0 x2 = Pl.beginB true := HN.out
    have hat := HX2.out.at_
    rw [List.set_set] at hat
    rw [HE] at hat
    obtain ⟨N, hN⟩ : ∃ N, newS true = N := ⟨_, rfl⟩
    rw [show stL (Pl.beginB true) (List.replicate 64 0) 0 0 = N from hN] at hat
    have HNl := Lib.hid (show N.length = 74 by rw [← hN]; exact stL_len (by rfl) (by simp))
    have HN1 := Lib.hid (show ∀ v ∈ N, v.oneCell' = true by rw [← hN]; exact stL_one _ _ _ _)
    have HNN := Lib.hid hN
    have HAT := Lib.hid hat
    have HTH := Lib.hid (thereL (n := N.toArray.size) HR2.out (by rw [zero_st, List.size_toArray, List.size_toArray, HNl.out, stL_len (by simp) (by simp)]; exact Nat.le_refl _))
    have HIL : Hid ((Tryz.prog.info? 125).map (·.size) = some N.toArray.size) := by rw [List.size_toArray, HNl.out]; exact info_st
    clear hN hat hY HX HX1 HX2 HN HE ex1 ex2 hf1 hq1
    go_wp2_with (first
      | (with_reducible refine wpList_load_mid rfl 125 _ rfl D 0 rfl N _ (rangeL HAT.out) Tryz.underlying125 rfl (by rw [HNl.out]; exact info_st) ?_)
      | (with_reducible refine wpList_store_mid rfl 125 _ _ rfl w.heap.size 0 N.toArray rfl rfl HTH.out HIL.out (all_oneCell_toArray HN1.out) ?_))
    have hfin : (Y.setCells w.heap.size 0 N).heap[w.heap.size]? = some (.cells N.toArray 125 (0, 0)) := heap_setCells_all (C := stL (List.replicate 8 0) (List.replicate 64 0) 0 0) (by rw [← zero_st]; exact HR2.out) (by rw [HNl.out, stL_len (by simp) (by simp)])
    refine bodyPost_ret (v := .agg N.toArray) (results_one rfl rfl (rangeL hfin) Tryz.underlying125 rfl (by rw [HNl.out]; exact info_st)) rfl ?_
    rw [HNN.out]
    exact ⟨rfl, HB2.out.trans (Lib.below_setCells_w (Nat.le_refl _) _ _ _)⟩
end Go.Proofs.YtdnebgilkfafhaaGreatDoor
namespace Go.Proofs.YtdnebgilkfafhaaGreatDoor
open Go.RowKit
set_option linter.unusedVariables false
set_option linter.unusedSimpArgs false
theorem zero_u8 (w : World) : (zeroValue 5).run Tryz.prog w = .ok (.int .u8 0) w := by
  have h : (Tryz.prog.info? 5).map (·.zero) = some (some (.int .u8 0)) := by kernel_rfl
  cases hi : Tryz.prog.info? 5 with
  | none => rw [hi] at h; simp at h
  | some i =>
    have hz : i.zero = some (.int .u8 0) := by simpa [hi] using h
    simp [zeroValue, typeInfo, Sem.run_bind, Sem.run_pure, Result.andThen_ok, hi, hz]
theorem zeros_u8 (n : Nat) : (Builtin.zeroCells #[.int .u8 0] n).toList = u8s (List.replicate n 0) := by
  refine List.ext_getElem ?_ fun i h1 h2 => ?_
  · simp [Builtin.zeroCells, u8s]
  · simp [Builtin.zeroCells, u8s, Nat.mod_one]
theorem run_clear (w : World) (dT ty : TypeId) (b o n c : Nat) (hu : Tryz.prog.underlying dT = some (.slice 5)) (hn : 0 < n)
    (hc : ∀ j, j < n → (w.cell? ⟨b, o + j, none⟩).isSome = true) (hf : ∀ j, j < n → w.frozen? ⟨b, o + j, none⟩ = false) :
    (Builtin.clear_ #[dT] ty #[.slice (some ⟨b, o, none⟩) n c]).run Tryz.prog w = .ok (.tuple #[]) (w.setCells b o (u8s (List.replicate n 0))) := by
  have hl : (u8s (List.replicate n 0)).length = n := by rw [u8s_len, List.length_replicate]
  have hst := run_storeCells_cells (P := Tryz.prog) b o (u8s (List.replicate n 0)) 0 w (by rw [hl]; simpa using hc) (by rw [hl]; simpa using hf) (u8s_one _)
  simp only [Nat.add_zero] at hst
  obtain ⟨m, rfl⟩ : ∃ m, n = m + 1 := ⟨n - 1, by omega⟩
  simp [Builtin.clear_, run_underlying hu, zero_u8, Sem.run_bind, Value.cells]
  rw [zeros_u8, hst]
  simp [Result.andThen]
theorem step_clear {ops : Array Oper} {o : Oper} {a : Act} {w : World} {K : Act → World → Prop} {Q : Exit → Act → World → Prop} {E : Prop}
    (hg : o.guard = none) (d : Operand) (dT : TypeId) (hop : o.op = Op.call { callee := Callee.builtin Builtin.clear, args := #[d], argTypes := #[dT] })
    (hu : Tryz.prog.underlying dT = some (.slice 5)) (b off n c : Nat) (hn : 0 < n) (hd : a.eval d = .slice (some ⟨b, off, none⟩) n c)
    (hc : ∀ j, j < n → (w.cell? ⟨b, off + j, none⟩).isSome = true) (hf : ∀ j, j < n → w.frozen? ⟨b, off + j, none⟩ = false)
    (hK : K (a.put o.dst (.tuple #[])) (w.setCells b off (u8s (List.replicate n 0)))) :
    if Region.wanted o (yielded ops a.tmps) = true then Oper.wp Tryz.prog o a w K Q else E := by
  have hw : Region.wanted o (yielded ops a.tmps) = true := by simp [Region.wanted, hg]
  rw [if_pos hw]
  have hrun := run_clear w dT o.type b off n c hu hn hc hf
  unfold Oper.wp
  simp [execOp, hop, resolve, invoke, builtin, hd, hrun, Result.andThen]
  exact hK
theorem step_clear0 {ops : Array Oper} {o : Oper} {a : Act} {w : World} {K : Act → World → Prop} {Q : Exit → Act → World → Prop} {E : Prop}
    (hg : o.guard = none) (d : Operand) (dT : TypeId) (hop : o.op = Op.call { callee := Callee.builtin Builtin.clear, args := #[d], argTypes := #[dT] })
    (hu : Tryz.prog.underlying dT = some (.slice 5)) (ad : Option Addr) (c : Nat) (hd : a.eval d = .slice ad 0 c)
    (hK : K (a.put o.dst (.tuple #[])) w) :
    if Region.wanted o (yielded ops a.tmps) = true then Oper.wp Tryz.prog o a w K Q else E := by
  have hw : Region.wanted o (yielded ops a.tmps) = true := by simp [Region.wanted, hg]
  rw [if_pos hw]
  unfold Oper.wp
  cases ad <;> simp [execOp, hop, resolve, invoke, builtin, hd, Builtin.clear_, run_underlying hu, Sem.run_bind, Result.andThen]
  all_goals exact hK
theorem flat_get : ∀ (l : List Nat) (i j : Nat), i < l.length → j < 4 → (l.flatMap Pl.leB).getD (4 * i + j) 0 = (Pl.leB (l.getD i 0)).getD j 0
  | [], i, j, h, _ => by simp at h
  | x :: l, 0, j, _, hj => by
    rw [List.flatMap_cons, List.getD_eq_getElem?_getD, List.getElem?_append_left (by rw [Pl.leB_len]; omega), List.getD_eq_getElem?_getD]
    simp
  | x :: l, i + 1, j, h, hj => by
    have ih := flat_get l i j (by simpa using h) hj
    rw [List.flatMap_cons, List.getD_eq_getElem?_getD, List.getElem?_append_right (by rw [Pl.leB_len]; omega), Pl.leB_len, show 4 * (i + 1) + j - 4 = 4 * i + j by omega, ← List.getD_eq_getElem?_getD, ih]
    simp
/-- The first bytes of a digest, the others as they were made. -/
def partD (F : List UInt8) (n : Nat) : List UInt8 := F.take n ++ List.replicate (32 - n) 0
theorem partD_0 (F : List UInt8) : partD F 0 = List.replicate 32 0 := by simp [partD]
theorem partD_32 {F : List UInt8} (h : F.length = 32) : partD F 32 = F := by simp [partD, List.take_of_length_le (Nat.le_of_eq h)]
theorem partD_len {F : List UInt8} (h : F.length = 32) {n : Nat} (hn : n ≤ 32) : (partD F n).length = 32 := by simp [partD, h]; omega
theorem partD_step {F : List UInt8} (h : F.length = 32) {n : Nat} (hn : n < 32) : (partD F n).set n (F.getD n 0) = partD F (n + 1) := by
  unfold partD
  have hl : (F.take n).length = n := by rw [List.length_take]; omega
  rw [List.set_append_right _ _ (by omega), hl, Nat.sub_self, show 32 - n = (32 - (n + 1)) + 1 by omega, List.replicate_succ, List.set_cons_zero, List.take_add_one, List.getElem?_eq_getElem (by omega), List.getD_eq_getElem?_getD, List.getElem?_eq_getElem (by omega)]
  simp only [Option.toList_some, Option.getD_some, List.append_assoc, List.singleton_append]
theorem info_d32 : (Tryz.prog.info? 42).map (·.size) = some 32 := by kernel_rfl
set_option maxRecDepth 1000000 in
set_option maxHeartbeats 4000000 in
theorem end_any (S : Nat) (s : Pl.Blk) (hs : BlkOk s) (w : World) (H : Sx w S s) (hv : VHash w) :
    Calls Tryz.prog 69 #[.pointer (some ⟨S, 0, none⟩)] w
      (fun e w' => e = .returned (.agg (u8s s.digest).toArray) ∧ w.grownBy w' (some S)) := by
  have hS := StBox.lt H
  have hfl := hs.f
  have HA := Lib.hid hs.h
  obtain ⟨h, b, f, t⟩ := s
  dsimp only at hfl
  go_enter Tryz.func69, Tryz.ntmps69
  go_upto_region 1 with (fail)
  generalize hX : w.alloc _ = X
  have hb0 : Below w.heap.size w X := by rw [← hX]; exact (Below.refl _ _).alloc (Nat.le_refl _) _
  have HX := Lib.hid (StBox.below H hb0)
  have HV := Lib.hid (hv.below hb0)
  have HR : Hid (X.heap[w.heap.size]? = some (.cells (u8s (List.replicate 32 0)).toArray 42 (0, 0))) := by rw [← hX]; exact heap_alloc_new w _
  have HG := Lib.hid (grown_of_below (r := some S) hb0)
  clear H hv hs hb0 hX
  obtain ⟨t1, ht1⟩ : ∃ t1, (t + f) % 18446744073709551616 = t1 := ⟨_, rfl⟩
  have lt1 : t1 < 18446744073709551616 := by omega
  have hct := HX.out.ct
  have hcf := HX.out.cf
  dsimp only at hct hcf
  have hfr := HX.out.froz 73
  have e0 : IntKind.u64.wrap (f : Int) = (f : Int) := by rw [IntKind.wrap_u64]; omega
  have e1 : IntKind.u64.wrap ((t : Int) + (f : Int)) = (t1 : Int) := by rw [IntKind.wrap_u64]; omega
  have HT1 := Lib.hid ht1
  have HX1 := Lib.hid (StBox.set_t HX.out t1)
  have HV1 := Lib.hid (HV.out.kept HX.out (grown_set X S 73 (.int .u64 (t1 : Int))))
  have hcf1 := HX1.out.cf
  clear ht1
  go_wp2_with fail
  refine wp_region_held_drew (S := (fun w' => w'.cell? ⟨S, 72, none⟩ = some (.int .i64 (f : Int)))) (by kernel_rfl) (by exact hcf) (fun hHeld => ?_)
  refine tk 0 (v := ?_) rfl ?_ hHeld ?_
  rotate_left
  · (intro w' hSw; (try dsimp only at hSw); go_simp; try with_reducible rfl)
  simp only [Act.put, lay9]
  refine tk 1 (v := ?_) rfl ?_ hHeld ?_
  rotate_left
  · (intro w' hSw; (try dsimp only at hSw); go_simp; try with_reducible rfl)
  simp only [Act.put, lay9]
  refine tk 2 (v := ?_) rfl ?_ hHeld ?_
  rotate_left
  · (intro w' hSw; (try dsimp only at hSw); go_simp; try with_reducible rfl)
  simp only [Act.put, lay9]
  refine tk 4 (v := ?_) rfl ?_ hHeld ?_
  rotate_left
  · (intro w' hSw; (try dsimp only at hSw); go_simp; try with_reducible rfl)
  simp only [Act.put, lay9]
  refine tk 5 (v := ?_) rfl ?_ hHeld ?_
  rotate_left
  · (intro w' hSw; (try dsimp only at hSw); go_simp; try with_reducible rfl)
  simp only [Act.put, lay9]
  refine tk 6 (v := ?_) rfl ?_ hHeld ?_
  rotate_left
  · (intro w' hSw; (try dsimp only at hSw); go_simp; try with_reducible rfl)
  simp only [Act.put, lay9]
  refine tk 7 (v := ?_) rfl ?_ hHeld ?_
  rotate_left
  · (intro w' hSw; (try dsimp only at hSw); go_simp; try with_reducible rfl)
  simp only [Act.put, lay9]
  refine tk 8 (v := ?_) rfl ?_ hHeld ?_
  rotate_left
  · (intro w' hSw; (try dsimp only at hSw); go_simp; try with_reducible rfl)
  simp only [Act.put, lay9]
  refine wpAnyH_ready (rs := [3]) (by kernel_rfl) (by simp) (AllReadyH.cons rfl (fun K hK => ?_) AllReadyH.nil)
  go_simp
  refine hK.out _ _ hHeld (fun hHeld => ?_)
  clear hK K
  (try simp only [Act.put, lay9])
  refine tk 9 (v := ?_) rfl ?_ hHeld ?_
  rotate_left
  · (intro w' hSw; (try dsimp only at hSw); go_simp; try with_reducible rfl)
  simp only [Act.put, lay9]
  refine tk 10 (v := ?_) rfl ?_ hHeld ?_
  rotate_left
  · (intro w' hSw; (try dsimp only at hSw); go_simp; try with_reducible rfl)
  simp only [Act.put, lay9]
  refine tk 11 (v := ?_) rfl ?_ hHeld ?_
  rotate_left
  · (intro w' hSw; (try dsimp only at hSw); go_simp; try with_reducible rfl)
  simp only [Act.put, lay9]
  refine wpAnyH_ready (rs := [12]) (by kernel_rfl) (by simp) (AllReadyH.cons rfl (fun K hK => ?_) AllReadyH.nil)
  go_simp
  refine hK.out _ _ hcf1 (fun hHeld => ?_)
  clear hK K
  (try simp only [Act.put, lay9])
  refine wpAnyH_done (by kernel_rfl) ?_ _
  have HY := Lib.hid (show StBox (X.setCell ⟨S, 73, none⟩ (.int .u64 (t1 : Int))).drew S h b f t1 from ⟨HX1.out.at_, HX1.out.hl, HX1.out.bl⟩)
  have HV2 := Lib.hid (show VHash (X.setCell ⟨S, 73, none⟩ (.int .u64 (t1 : Int))).drew from ⟨HV1.out.e, HV1.out.r⟩)
  have HG2 := Lib.hid (HG.out.trans (grown_drew (grown_set X S 73 (.int .u64 (t1 : Int)))))
  have HR2 : Hid ((X.setCell ⟨S, 73, none⟩ (.int .u64 (t1 : Int))).drew.heap[w.heap.size]? = some (.cells (u8s (List.replicate 32 0)).toArray 42 (0, 0))) := ((grown_set X S 73 (.int .u64 (t1 : Int))).block _ (blk_lt HR.out) (by simp; omega)).trans HR.out
  obtain ⟨Y, hY⟩ : ∃ Y, (X.setCell ⟨S, 73, none⟩ (.int .u64 (t1 : Int))).drew = Y := ⟨_, rfl⟩
  rw [hY] at HY HV2 HG2 HR2 ⊢
  clear hY hHeld hcf1 e0 e1 hfr hcf hct HX1 HV1 HX HV HR HG
  have hcf := HY.out.cf
  have i0 : (0 : Int) ≤ (f : Int) := by omega
  have i1 : (f : Int) ≤ 64 := by omega
  by_cases hf : f = 64
  case' pos =>
    have hcf6 : Y.cell? ⟨S, 72, none⟩ = some (.int .i64 ((64 : Nat) : Int)) := by rw [hcf, hf]
    have HB := Lib.hid (show b.take f ++ List.replicate (64 - f) 0 = b by rw [hf]; simp [List.take_of_length_le (Nat.le_of_eq HY.out.bl)])
    go_wp2_with fail
    refine wp_region_held_drew (S := (fun w' => w'.cell? ⟨S, 72, none⟩ = some (.int .i64 ((64 : Nat) : Int)))) (by kernel_rfl) (by exact hcf6) (fun hHeld => ?_)
    refine tk 0 (v := ?_) rfl ?_ hHeld ?_
    rotate_left
    · (intro w' hSw; (try dsimp only at hSw); go_simp; try with_reducible rfl)
    simp only [Act.put, lay9]
    refine tk 1 (v := ?_) rfl ?_ hHeld ?_
    rotate_left
    · (intro w' hSw; (try dsimp only at hSw); go_simp; try with_reducible rfl)
    simp only [Act.put, lay9]
    refine tk 2 (v := ?_) rfl ?_ hHeld ?_
    rotate_left
    · (intro w' hSw; (try dsimp only at hSw); go_simp; try with_reducible rfl)
    simp only [Act.put, lay9]
    refine tk 3 (v := ?_) rfl ?_ hHeld ?_
    rotate_left
    · (intro w' hSw; (try dsimp only at hSw); go_simp; try with_reducible rfl)
    simp only [Act.put, lay9]
    refine tk 4 (v := ?_) rfl ?_ hHeld ?_
    rotate_left
    · (intro w' hSw; (try dsimp only at hSw); go_simp; try with_reducible rfl)
    simp only [Act.put, lay9]
    refine tk 5 (v := ?_) rfl ?_ hHeld ?_
    rotate_left
    · (intro w' hSw; (try dsimp only at hSw); go_simp; try with_reducible rfl)
    simp only [Act.put, lay9]
    refine tk 6 (v := ?_) rfl ?_ hHeld ?_
    rotate_left
    · (intro w' hSw; (try dsimp only at hSw); go_simp; try with_reducible rfl)
    simp only [Act.put, lay9]
    refine tk 7 (v := ?_) rfl ?_ hHeld ?_
    rotate_left
    · (intro w' hSw; (try dsimp only at hSw); go_simp; try with_reducible rfl)
    simp only [Act.put, lay9]
    refine wpAnyH_ready (rs := [8]) (by kernel_rfl) (by simp) (AllReadyH.cons rfl (fun K hK => ?_) AllReadyH.nil)
    refine step_clear0 rfl (.tmp 26) _ rfl Tryz.underlying138 _ _ rfl ?_
    refine hK.out _ _ hHeld (fun hHeld => ?_)
    clear hK K
    (try simp only [Act.put, lay9])
    refine wpAnyH_done (by kernel_rfl) ?_ _
    have HZ := Lib.hid (show StBox Y.drew S h (b.take f ++ List.replicate (64 - f) 0) f t1 by rw [HB.out]; exact ⟨HY.out.at_, HY.out.hl, HY.out.bl⟩)
    have HV3 := Lib.hid (show VHash Y.drew from ⟨HV2.out.e, HV2.out.r⟩)
    have HG3 := Lib.hid (grown_drew HG2.out)
    have HR3 : Hid (Y.drew.heap[w.heap.size]? = some (.cells (u8s (List.replicate 32 0)).toArray 42 (0, 0))) := HR2.out
    obtain ⟨Z, hZ⟩ : ∃ Z, Y.drew = Z := ⟨_, rfl⟩
    rw [hZ] at HZ HV3 HG3 HR3 ⊢
    clear hZ hHeld HB hcf6
  case' neg =>
    have i2 : (f : Int) < 64 := by omega
    have ne64 : ¬ 64 = f := by omega
    go_wp2_with fail
    refine wp_region_held_drew (S := (fun w' => w'.cell? ⟨S, 72, none⟩ = some (.int .i64 (f : Int)))) (by kernel_rfl) (by exact hcf) (fun hHeld => ?_)
    refine tk 0 (v := ?_) rfl ?_ hHeld ?_
    rotate_left
    · (intro w' hSw; (try dsimp only at hSw); go_simp; try with_reducible rfl)
    simp only [Act.put, lay9]
    refine tk 1 (v := ?_) rfl ?_ hHeld ?_
    rotate_left
    · (intro w' hSw; (try dsimp only at hSw); go_simp; try with_reducible rfl)
    simp only [Act.put, lay9]
    refine tk 2 (v := ?_) rfl ?_ hHeld ?_
    rotate_left
    · (intro w' hSw; (try dsimp only at hSw); go_simp; try with_reducible rfl)
    simp only [Act.put, lay9]
    refine tk 3 (v := ?_) rfl ?_ hHeld ?_
    rotate_left
    · (intro w' hSw; (try dsimp only at hSw); go_simp; try with_reducible rfl)
    simp only [Act.put, lay9]
    refine tk 4 (v := ?_) rfl ?_ hHeld ?_
    rotate_left
    · (intro w' hSw; (try dsimp only at hSw); go_simp; try with_reducible rfl)
    simp only [Act.put, lay9]
    refine tk 5 (v := ?_) rfl ?_ hHeld ?_
    rotate_left
    · (intro w' hSw; (try dsimp only at hSw); go_simp; try with_reducible rfl)
    simp only [Act.put, lay9]
    refine tk 6 (v := ?_) rfl ?_ hHeld ?_
    rotate_left
    · (intro w' hSw; (try dsimp only at hSw); go_simp; try with_reducible rfl)
    simp only [Act.put, lay9]
    refine tk 7 (v := ?_) rfl ?_ hHeld ?_
    rotate_left
    · (intro w' hSw; (try dsimp only at hSw); go_simp; try with_reducible rfl)
    simp only [Act.put, lay9]
    refine wpAnyH_ready (rs := [8]) (by kernel_rfl) (by simp) (AllReadyH.cons rfl (fun K hK => ?_) AllReadyH.nil)
    have HY1 : Hid (StBox Y.drew S h b f t1) := ⟨HY.out.at_, HY.out.hl, HY.out.bl⟩
    have HL := Lib.hid (StBox.lay HY1.out f (List.replicate (64 - f) 0) (by rw [List.length_replicate]; omega))
    refine step_clear rfl (.tmp 26) _ rfl Tryz.underlying138 S (8 + f) (64 - f) (64 - f) (by omega) rfl (fun j hj => ?_) (fun j hj => ?_) ?_
    · have := HY1.out.cb (f + j) (by omega)
      rw [Nat.add_assoc, this]; rfl
    · exact HY1.out.froz _
    refine hK.out _ _ HL.out.cf (fun hHeld => ?_)
    clear hK K
    (try simp only [Act.put, lay9])
    refine wpAnyH_done (by kernel_rfl) ?_ _
    have HZ := Lib.hid (show StBox (Y.drew.setCells S (8 + f) (u8s (List.replicate (64 - f) 0))) S h (b.take f ++ List.replicate (64 - f) 0) f t1 by
      have e : Pl.layB b f (List.replicate (64 - f) 0) = b.take f ++ List.replicate (64 - f) 0 := by
        unfold Pl.layB
        rw [List.drop_of_length_le (by have := HY.out.bl; simp; omega), List.append_nil]
      have := HL.out
      rwa [e] at this)
    have HV3 := Lib.hid (HV2.out.kept HY.out ((grown_drew (World.grownBy.refl Y _)).trans (grown_cells S (u8s (List.replicate (64 - f) 0)) (8 + f) _)))
    have HG3 := Lib.hid ((grown_drew HG2.out).trans (grown_cells S (u8s (List.replicate (64 - f) 0)) (8 + f) _))
    have HR3 := Lib.hid (((grown_cells S (u8s (List.replicate (64 - f) 0)) (8 + f) Y.drew).block _ (blk_lt HR2.out) (by simp; omega)).trans HR2.out)
    obtain ⟨Z, hZ⟩ : ∃ Z, Y.drew.setCells S (8 + f) (u8s (List.replicate (64 - f) 0)) = Z := ⟨_, rfl⟩
    rw [hZ] at HZ HV3 HG3 HR3 ⊢
    clear hZ hHeld HL HY1 i2 ne64
  all_goals
    clear HY HV2 HG2 HR2 hcf hf i0 i1
    obtain ⟨b2, hb2⟩ : ∃ b2, b.take f ++ List.replicate (64 - f) 0 = b2 := ⟨_, rfl⟩
    rw [hb2] at HZ
    have HTk := Lib.hid (show Pl.Blk.digest ⟨h, b, f, t⟩ = (Pl.takeB h b2 t1 true).flatMap Pl.leB by unfold Pl.Blk.digest; rw [hb2, HT1.out])
    clear hb2 HT1
    go_wp2_with fail
    have HC := Lib.hid (take_any S h b2 f t1 lt1 true _ HZ.out HA.out HV3.out)
    with_reducible refine HC.out.mono ?_
    rintro _ W1 ⟨rfl, hx1, hg1⟩
    obtain ⟨N, hN⟩ : ∃ N, Pl.takeB h b2 t1 true = N := ⟨_, rfl⟩
    have hNA : Pl.All32 N := by rw [← hN]; exact takeB_all HA.out _ _ _
    rw [hN] at hx1 HTk
    have HX1 := Lib.hid hx1
    have HG4 := Lib.hid (HG3.out.trans hg1)
    have HR4 := Lib.hid ((hg1.block _ (blk_lt HR3.out) (by simp; omega)).trans HR3.out)
    clear hx1 hg1 hN HC HZ HV3 HG3 HR3
    go_upto_region 5 with (fail)
    generalize hW2 : W1.alloc _ = W2
    have hb2 : Below W1.heap.size W1 W2 := by rw [← hW2]; exact (Below.refl _ _).alloc (Nat.le_refl _) _
    have hD0 : W2.heap[W1.heap.size]? = some (.cells (u8s (List.replicate 32 0)).toArray 42 (0, 0)) := by rw [← hW2]; exact heap_alloc_new W1 _
    have hX2 := StBox.below HX1.out hb2
    have hG5 := HG4.out.trans (grown_of_below (r := some S) hb2)
    have HR5 := Lib.hid ((hb2.block _ (blk_lt HR4.out)).trans HR4.out)
    have hRD : w.heap.size < W1.heap.size := blk_lt HR4.out
    obtain ⟨D, hD⟩ : ∃ D, W1.heap.size = D := ⟨_, rfl⟩
    rw [hD] at hD0 hRD ⊢
    have hch : W2.rangeAt S 0 (u32s N) := fun j v hv => by
      have hj : j < 8 := by
        have := (List.getElem?_eq_some_iff.1 hv).1
        rwa [u32s_len, hX2.hl] at this
      rw [u32s_get N j (by rw [hX2.hl]; exact hj)] at hv
      rw [← hv, Nat.zero_add]
      exact hX2.ch j hj
    have hNl : N.length = 8 := hX2.hl
    obtain ⟨F, hF⟩ : ∃ F, N.flatMap Pl.leB = F := ⟨_, rfl⟩
    have hFl : F.length = 32 := by rw [← hF, Pl.flat_len, hNl]
    have HFg : Hid (∀ i j, i < 8 → j < 4 → F.getD (4 * i + j) 0 = (Pl.leB (N.getD i 0)).getD j 0) := fun i j hi hj => by rw [← hF]; exact flat_get N i j (by omega) hj
    rw [hF] at HTk
    have HCH := Lib.hid hch
    have HG5 := Lib.hid hG5
    have HD0 := Lib.hid hD0
    clear hW2 hb2 hX2 hG5 hD hch hD0 hF HX1 HG4 HR4 hHeld
    go_wp2_with (with_reducible refine wpList_load_mid rfl 90 _ rfl S 0 rfl (u32s N) _ HCH.out Tryz.underlying90 rfl (by rw [u32s_len, hNl]; exact info_8) ?_)
    clear HCH
    go_loopw [33] (fun i wr => ∃ (k : Nat), k ≤ 8 ∧ i = .int .i64 k ∧ Hid (wr.heap[D]? = some (.cells (u8s (partD F (4 * k))).toArray 42 (0, 0))) ∧ Hid (wr.heap[w.heap.size]? = some (.cells (u8s (List.replicate 32 0)).toArray 42 (0, 0))) ∧ Hid (w.grownBy wr (some S))) (fun i _ => 8 - (intOf i).toNat)
    case atStart => exact ⟨0, Nat.zero_le _, rfl, by rw [Nat.mul_zero, partD_0]; exact HD0.out, HR5.out, HG5.out⟩
    case round =>
      obtain ⟨k, hk, rfl, HD, HR, HG⟩ := hrel
      clear HD0 HR5 HG5
      by_cases hlt : k < 8
      · obtain ⟨x, hx⟩ : ∃ x, N.getD k 0 = x := ⟨_, rfl⟩
        have lx : x < 4294967296 := by rw [← hx]; exact hNA k
        have hidx : ∀ w : World, (Instr.index 90 (.agg (u32s N).toArray) (.int .i64 (k : Int))).run Tryz.prog w = .ok (.int .u32 (x : Int)) w := fun w => by rw [← hx]; exact index8 N hNl k hlt w
        have HFx := Lib.hid (fun j (hj : j < 4) => (HFg.out k j hlt hj).trans (by rw [hx] : (Pl.leB (N.getD k 0)).getD j 0 = (Pl.leB x).getD j 0))
        clear hx
        have k0 : (0 : Int) ≤ (k : Int) := by omega
        have k1 : (k : Int) < 8 := by omega
        go_wp2_with fail
        clear hidx
        go_loopw [37] (fun i wr => ∃ (j : Nat), j ≤ 4 ∧ i = .int .i64 j ∧ Hid (wr.heap[D]? = some (.cells (u8s (partD F (4 * k + j))).toArray 42 (0, 0))) ∧ Hid (wr.heap[w.heap.size]? = some (.cells (u8s (List.replicate 32 0)).toArray 42 (0, 0))) ∧ Hid (w.grownBy wr (some S))) (fun i _ => 4 - (intOf i).toNat)
        case atStart => exact ⟨0, Nat.zero_le _, rfl, HD.out, HR.out, HG.out⟩
        case round =>
          obtain ⟨j, hj, rfl, HD, HR, HG⟩ := hrel
          by_cases hlj : j < 4
          · obtain rfl | rfl | rfl | rfl : j = 0 ∨ j = 1 ∨ j = 2 ∨ j = 3 := by omega
            · replace HD := Lib.hid (show wr.heap[D]? = some (.cells (u8s (partD F (4 * k))).toArray 42 (0, 0)) from HD.out)
              obtain ⟨y, hy⟩ : ∃ y, (F.getD (4 * k) 0).toNat = y := ⟨_, rfl⟩
              have hyx : y = x % 256 := by rw [← hy, show 4 * k = 4 * k + 0 from rfl, HFx.out 0 (by decide)]; show (UInt8.ofNat (x % 256)).toNat = _; rw [UInt8.toNat_ofNat']; omega
              have ec : IntKind.u8.wrap ((x : Int)) = (y : Int) := by rw [IntKind.wrap_u8, hyx]; omega
              have hlen : (partD F (4 * k)).length = 32 := partD_len hFl (by omega)
              have q1 : wr.cell? ⟨D, 4 * k, none⟩ = some (.int .u8 (((partD F (4 * k)).getD (4 * k) 0).toNat : Int)) := u8s_cell HD.out _ (by omega)
              have q2 := frozen_of wr D (4 * k) _ _ HD.out
              have n1 : (0 : Int) ≤ 4 * (k : Int) := by omega
              have n2 : 4 * (k : Int) < 32 := by omega
              have n3 : (4 * (k : Int)).toNat = 4 * k := by omega
              have HS := Lib.hid (show (wr.setCell ⟨D, 4 * k, none⟩ (.int .u8 (y : Int))).heap[D]? = some (.cells (u8s (partD F (4 * k + 0 + 1))).toArray 42 (0, 0)) by
                rw [set_at _ _ _ _ _ _ HD.out, List.setIfInBounds_toArray, ← hy, u8s_set, partD_step hFl (by omega)])
              have HS2 := Lib.hid (((grown_set wr D (4 * k) (.int .u8 (y : Int))).block _ (blk_lt HR.out) (by simp; omega)).trans HR.out)
              have HS3 := Lib.hid (HG.out.andThen (grown_set wr D (4 * k) (.int .u8 (y : Int))) (fun j hj => by left; simp at hj; omega))
              clear hy hyx hlen
              go_wp2_with fail
              go_roundw
              case rel => exact ⟨0 + 1, by omega, by go_num, HS.out, HS2.out, HS3.out⟩
              case measure => simp [intOf]
            · obtain ⟨y, hy⟩ : ∃ y, (F.getD (4 * k + 1) 0).toNat = y := ⟨_, rfl⟩
              have hyx : y = x / 256 % 256 := by rw [← hy, HFx.out 1 (by decide)]; show (UInt8.ofNat (x / 256 % 256)).toNat = _; rw [UInt8.toNat_ofNat']; omega
              have ec : IntKind.u8.wrap ((x : Int) / 256) = (y : Int) := by rw [IntKind.wrap_u8, hyx]; omega
              have hlen : (partD F (4 * k + 1)).length = 32 := partD_len hFl (by omega)
              have q1 : wr.cell? ⟨D, 4 * k + 1, none⟩ = some (.int .u8 (((partD F (4 * k + 1)).getD (4 * k + 1) 0).toNat : Int)) := u8s_cell HD.out _ (by omega)
              have q2 := frozen_of wr D (4 * k + 1) _ _ HD.out
              have n1 : (0 : Int) ≤ 4 * (k : Int) + 1 := by omega
              have n2 : 4 * (k : Int) + 1 < 32 := by omega
              have n3 : (4 * (k : Int) + 1).toNat = 4 * k + 1 := by omega
              have HS := Lib.hid (show (wr.setCell ⟨D, 4 * k + 1, none⟩ (.int .u8 (y : Int))).heap[D]? = some (.cells (u8s (partD F (4 * k + 1 + 1))).toArray 42 (0, 0)) by
                rw [set_at _ _ _ _ _ _ HD.out, List.setIfInBounds_toArray, ← hy, u8s_set, partD_step hFl (by omega)])
              have HS2 := Lib.hid (((grown_set wr D (4 * k + 1) (.int .u8 (y : Int))).block _ (blk_lt HR.out) (by simp; omega)).trans HR.out)
              have HS3 := Lib.hid (HG.out.andThen (grown_set wr D (4 * k + 1) (.int .u8 (y : Int))) (fun j hj => by left; simp at hj; omega))
              clear hy hyx hlen
              go_wp2_with fail
              go_roundw
              case rel => exact ⟨1 + 1, by omega, by go_num, HS.out, HS2.out, HS3.out⟩
              case measure => simp [intOf]
            · obtain ⟨y, hy⟩ : ∃ y, (F.getD (4 * k + 2) 0).toNat = y := ⟨_, rfl⟩
              have hyx : y = x / 65536 % 256 := by rw [← hy, HFx.out 2 (by decide)]; show (UInt8.ofNat (x / 65536 % 256)).toNat = _; rw [UInt8.toNat_ofNat']; omega
              have ec : IntKind.u8.wrap ((x : Int) / 65536) = (y : Int) := by rw [IntKind.wrap_u8, hyx]; omega
              have hlen : (partD F (4 * k + 2)).length = 32 := partD_len hFl (by omega)
              have q1 : wr.cell? ⟨D, 4 * k + 2, none⟩ = some (.int .u8 (((partD F (4 * k + 2)).getD (4 * k + 2) 0).toNat : Int)) := u8s_cell HD.out _ (by omega)
              have q2 := frozen_of wr D (4 * k + 2) _ _ HD.out
              have n1 : (0 : Int) ≤ 4 * (k : Int) + 2 := by omega
              have n2 : 4 * (k : Int) + 2 < 32 := by omega
              have n3 : (4 * (k : Int) + 2).toNat = 4 * k + 2 := by omega
              have HS := Lib.hid (show (wr.setCell ⟨D, 4 * k + 2, none⟩ (.int .u8 (y : Int))).heap[D]? = some (.cells (u8s (partD F (4 * k + 2 + 1))).toArray 42 (0, 0)) by
                rw [set_at _ _ _ _ _ _ HD.out, List.setIfInBounds_toArray, ← hy, u8s_set, partD_step hFl (by omega)])
              have HS2 := Lib.hid (((grown_set wr D (4 * k + 2) (.int .u8 (y : Int))).block _ (blk_lt HR.out) (by simp; omega)).trans HR.out)
              have HS3 := Lib.hid (HG.out.andThen (grown_set wr D (4 * k + 2) (.int .u8 (y : Int))) (fun j hj => by left; simp at hj; omega))
              clear hy hyx hlen
              go_wp2_with fail
              go_roundw
              case rel => exact ⟨2 + 1, by omega, by go_num, HS.out, HS2.out, HS3.out⟩
              case measure => simp [intOf]
            · obtain ⟨y, hy⟩ : ∃ y, (F.getD (4 * k + 3) 0).toNat = y := ⟨_, rfl⟩
              have hyx : y = x / 16777216 % 256 := by rw [← hy, HFx.out 3 (by decide)]; show (UInt8.ofNat (x / 16777216 % 256)).toNat = _; rw [UInt8.toNat_ofNat']; omega
              have ec : IntKind.u8.wrap ((x : Int) / 16777216) = (y : Int) := by rw [IntKind.wrap_u8, hyx]; omega
              have hlen : (partD F (4 * k + 3)).length = 32 := partD_len hFl (by omega)
              have q1 : wr.cell? ⟨D, 4 * k + 3, none⟩ = some (.int .u8 (((partD F (4 * k + 3)).getD (4 * k + 3) 0).toNat : Int)) := u8s_cell HD.out _ (by omega)
              have q2 := frozen_of wr D (4 * k + 3) _ _ HD.out
              have n1 : (0 : Int) ≤ 4 * (k : Int) + 3 := by omega
              have n2 : 4 * (k : Int) + 3 < 32 := by omega
              have n3 : (4 * (k : Int) + 3).toNat = 4 * k + 3 := by omega
              have HS := Lib.hid (show (wr.setCell ⟨D, 4 * k + 3, none⟩ (.int .u8 (y : Int))).heap[D]? = some (.cells (u8s (partD F (4 * k + 3 + 1))).toArray 42 (0, 0)) by
                rw [set_at _ _ _ _ _ _ HD.out, List.setIfInBounds_toArray, ← hy, u8s_set, partD_step hFl (by omega)])
              have HS2 := Lib.hid (((grown_set wr D (4 * k + 3) (.int .u8 (y : Int))).block _ (blk_lt HR.out) (by simp; omega)).trans HR.out)
              have HS3 := Lib.hid (HG.out.andThen (grown_set wr D (4 * k + 3) (.int .u8 (y : Int))) (fun j hj => by left; simp at hj; omega))
              clear hy hyx hlen
              go_wp2_with fail
              go_roundw
              case rel => exact ⟨3 + 1, by omega, by go_num, HS.out, HS2.out, HS3.out⟩
              case measure => simp [intOf]
          · obtain rfl : j = 4 := by omega
            have HD' := Lib.hid (show wr.heap[D]? = some (.cells (u8s (partD F (4 * (k + 1)))).toArray 42 (0, 0)) from HD.out)
            go_wp2_with fail
            go_roundw
            case rel => exact ⟨k + 1, by omega, by go_num, HD'.out, HR.out, HG.out⟩
            case measure => simp [intOf]; omega
      · obtain rfl : k = 8 := by omega
        obtain ⟨L, hL⟩ : ∃ L, u8s F = L := ⟨_, rfl⟩
        have hLl : L.length = 32 := by rw [← hL, u8s_len, hFl]
        have hL1 : ∀ v ∈ L, v.oneCell' = true := by rw [← hL]; exact u8s_one _
        have hat := HD.out
        rw [show 4 * 8 = 32 from rfl, partD_32 hFl, hL] at hat
        have HAT := Lib.hid hat
        have HL := Lib.hid hL
        have HLl := Lib.hid hLl
        have HTH := Lib.hid (thereL (n := L.toArray.size) HR.out (by rw [List.size_toArray, List.size_toArray, HLl.out, u8s_len, List.length_replicate]; exact Nat.le_refl _))
        clear hat hL hLl
        go_wp2_with (first
          | (with_reducible refine wpList_load_mid rfl 42 _ rfl D 0 rfl L _ (rangeL HAT.out) Tryz.underlying42 rfl (by rw [HLl.out]; exact info_d32) ?_)
          | (with_reducible refine wpList_store_mid rfl 42 _ _ rfl w.heap.size 0 L.toArray rfl rfl HTH.out (by rw [List.size_toArray, HLl.out]; exact info_d32) (all_oneCell_toArray hL1) ?_))
        have hfin := heap_setCells_all HR.out (vs := L) (by rw [HLl.out, u8s_len, List.length_replicate])
        refine bodyPost_ret (v := .agg L.toArray) (results_one rfl rfl (rangeL hfin) Tryz.underlying42 rfl (by rw [HLl.out]; exact info_d32)) rfl ?_
        refine ⟨by rw [HTk.out, ← HL.out], HG.out.andThen (grown_cells w.heap.size L 0 wr) (fun j hj => by left; simp at hj; omega)⟩
end Go.Proofs.YtdnebgilkfafhaaGreatDoor
namespace Go.Proofs.YtdnebgilkfafhaaGreatDoor
open Go.RowKit
set_option linter.unusedVariables false
set_option linter.unusedSimpArgs false
theorem splice_st {h : List Nat} {b : List UInt8} {f t : Nat} (hl : h.length = 8) (bl : b.length = 64) (o : Nat) (p : List UInt8) (hp : o + p.length ≤ 64) : splice (stL h b f t) (8 + o) (u8s p) = stL h (Pl.layB b o p) f t := by
  have h1 : (stL h b f t).take (8 + o) = u32s h ++ u8s (b.take o) := by
    unfold stL
    rw [List.take_append, List.take_of_length_le (by rw [u32s_len]; omega), u32s_len, hl, Nat.add_sub_cancel_left, List.take_append_of_le_length (by rw [u8s_len]; omega)]
    simp [u8s, List.map_take]
  have h2 : (stL h b f t).drop (8 + o + (u8s p).length) = u8s (b.drop (o + p.length)) ++ [.int .i64 (f : Int), .int .u64 (t : Int)] := by
    unfold stL
    rw [u8s_len, show 8 + o + p.length = 8 + (o + p.length) by omega, List.drop_append, List.drop_of_length_le (by rw [u32s_len]; omega), List.nil_append, u32s_len, hl, Nat.add_sub_cancel_left, List.drop_append_of_le_length (by rw [u8s_len]; omega)]
    simp [u8s, List.map_drop]
  unfold splice
  rw [h1, h2]
  simp [stL, Pl.layB, u8s]
end Go.Proofs.YtdnebgilkfafhaaGreatDoor
namespace Go.Proofs.YtdnebgilkfafhaaGreatDoor
open Go.RowKit
set_option linter.unusedVariables false
set_option linter.unusedSimpArgs false
attribute [local go_sem] ba_get ba_cut ba_add
set_option maxRecDepth 1000000 in
set_option maxHeartbeats 4000000 in
theorem sum_any (A : Option Addr) (l : List (List UInt8)) (c : Nat) (hl : ∀ p ∈ l, p.length < 4611686018427387904) (hn : l.length < 4611686018427387904) (w : World) (hA : Rd w 1 A l.length (strs l)) (hv : VHash w) :
    Calls Tryz.prog 34 #[.slice A l.length c] w
      (fun e w' => e = .returned (.agg (u8s (Pl.sumB l)).toArray) ∧ Below w.heap.size w w') := by
  have HA := Lib.hid hA
  have HL := Lib.hid hl
  clear hA
  go_enter Tryz.func34, Tryz.ntmps34
  go_upto_region 1 with (fail)
  generalize hX : w.alloc _ = X
  have hb0 : Below w.heap.size w X := by rw [← hX]; exact (Below.refl _ _).alloc (Nat.le_refl _) _
  have hR : X.heap[w.heap.size]? = some (.cells (u8s (List.replicate 32 0)).toArray 42 (0, 0)) := by rw [← hX]; exact heap_alloc_new w _
  have HV := Lib.hid (hv.below hb0)
  have HB := Lib.hid hb0
  have HR := Lib.hid hR
  clear hX hv hb0 hR
  obtain ⟨R, hRe⟩ : ∃ R, w.heap.size = R := ⟨_, rfl⟩
  rw [hRe] at HR ⊢
  obtain ⟨L, hL⟩ : ∃ L, newS false = L := ⟨_, rfl⟩
  have HLe := Lib.hid hL
  have HLl := Lib.hid (show L.length = 74 by rw [← hL]; exact stL_len (by rfl) (by simp))
  have HL1 := Lib.hid (show ∀ v ∈ L, v.oneCell' = true by rw [← hL]; exact stL_one _ _ _ _)
  have HIL : Hid ((Tryz.prog.info? 125).map (·.size) = some L.toArray.size) := by rw [List.size_toArray, HLl.out]; exact info_st
  have HC := Lib.hid (begin_any false X HV.out)
  rw [hL] at HC
  clear hL
  go_wp2_with fail
  with_reducible refine HC.out.mono ?_
  rintro _ W1 ⟨rfl, hb1⟩
  have HB1 := Lib.hid (HB.out.trans (hb1.mono HB.out.size))
  have HR1 := Lib.hid ((hb1.block _ (blk_lt HR.out)).trans HR.out)
  have HV1 := Lib.hid (HV.out.below hb1)
  have hRS : R < W1.heap.size := Nat.lt_of_lt_of_le (blk_lt HR.out) hb1.size
  clear hb1 HV HB HR HC
  have HZ1 := Lib.hid (show (W1.alloc (.cells Tryz.zeroCells125 125)).heap[W1.heap.size]? = some (.cells (stL (List.replicate 8 0) (List.replicate 64 0) 0 0).toArray 125 (0, 0)) by rw [zero_st]; exact heap_alloc_new W1 _)
  have HTH := Lib.hid (thereL (n := L.toArray.size) HZ1.out (by rw [List.size_toArray, List.size_toArray, HLl.out, stL_len (by simp) (by simp)]; exact Nat.le_refl _))
  go_upto_region 2 with (with_reducible refine wpList_store_mid rfl 125 _ _ rfl W1.heap.size 0 L.toArray rfl rfl HTH.out HIL.out (all_oneCell_toArray HL1.out) ?_)
  generalize hX : (W1.alloc _).setCells _ _ _ = X
  have hbx : Below W1.heap.size W1 X := by rw [← hX]; exact ((Below.refl _ _).alloc (Nat.le_refl _) _).trans (Lib.below_setCells_w (Nat.le_refl _) _ _ _)
  have HSt := Lib.hid (show StBox X W1.heap.size (Pl.beginB false) (List.replicate 64 0) 0 0 by
    refine ⟨?_, by rfl, by simp⟩
    rw [← hX, show stL (Pl.beginB false) (List.replicate 64 0) 0 0 = L from HLe.out]
    exact heap_setCells_all HZ1.out (by rw [HLl.out, stL_len (by simp) (by simp)]))
  have HB2 := Lib.hid (HB1.out.trans (hbx.mono HB1.out.size))
  have HR2 := Lib.hid ((hbx.block _ (blk_lt HR1.out)).trans HR1.out)
  have HV2 := Lib.hid (HV1.out.below hbx)
  obtain ⟨S, hS⟩ : ∃ S, W1.heap.size = S := ⟨_, rfl⟩
  rw [hS] at HSt hRS ⊢
  clear hX hbx HZ1 HTH HV1 HB1 HR1 HIL HL1 HLl HLe hS
  go_wp2_with fail
  obtain ⟨s0, hs0⟩ : ∃ s0 : Pl.Blk, s0 = ⟨Pl.beginB false, List.replicate 64 0, 0, 0⟩ := ⟨_, rfl⟩
  have hok : BlkOk s0 := by rw [hs0]; exact ⟨beginB_all false, Nat.zero_le _, Nat.zero_lt_succ _⟩
  have HY2 := Lib.hid (show Sx X S s0 by rw [hs0]; exact HSt.out)
  have HF := Lib.hid (show Pl.sumB l = (l.foldl Pl.Blk.add s0).digest by rw [hs0]; rfl)
  clear hs0 HSt
  go_loopw [9] (fun i wr => ∃ (j : Nat) (z : Pl.Blk), j ≤ l.length ∧ i = .int .i64 j ∧ Hid (z = (l.take j).foldl Pl.Blk.add s0) ∧ BlkOk z ∧ Hid (Sx wr S z) ∧ Hid (VHash wr) ∧ Hid (wr.heap[R]? = some (.cells (u8s (List.replicate 32 0)).toArray 42 (0, 0))) ∧ Hid (Below w.heap.size w wr)) (fun i _ => l.length - (intOf i).toNat)
  case atStart => exact ⟨0, s0, Nat.zero_le _, rfl, rfl, hok, HY2.out, HV2.out, HR2.out, HB2.out⟩
  case round =>
    obtain ⟨j, z, hj, rfl, HZ, hz, HS, HV, HR, HB⟩ := hrel
    clear HY2 HV2 HR2 HB2 hok
    by_cases hlt : j < l.length
    · obtain ⟨b, off, rfl, hb, hcl⟩ := HA.out.at1 hlt
      have hcl2 : wr.cell? ⟨b, off + j, none⟩ = some (.string ⟨(l[j]'hlt).toArray⟩) := by
        rw [HB.out.cell hb, hcl, strs_get l j hlt]
      obtain ⟨p, hp⟩ : ∃ p, l[j]'hlt = p := ⟨_, rfl⟩
      rw [hp] at hcl2
      have hpl : p.length < 4611686018427387904 := by rw [← hp]; exact HL.out _ (List.getElem_mem hlt)
      have HZ1 := Lib.hid (show z.add p = (l.take (j + 1)).foldl Pl.Blk.add s0 by rw [List.take_succ_eq_append_getElem hlt, List.foldl_append, ← HZ.out, hp]; rfl)
      clear hp hcl
      have j0 : (0 : Int) ≤ (j : Int) := by omega
      have j1 : (j : Int) < (l.length : Int) := by omega
      go_wp2_with fail
      have HC := Lib.hid (add_any S z hz p hpl wr HS.out HV.out)
      with_reducible refine HC.out.mono ?_
      rintro _ W2 ⟨rfl, hx2, ho2, hg2⟩
      have HX2 := Lib.hid hx2
      have HV2 := Lib.hid (HV.out.kept HS.out hg2)
      have HR2 := Lib.hid ((hg2.block _ (blk_lt HR.out) (by simp; omega)).trans HR.out)
      have HB2 := Lib.hid (HB.out.grown hg2 HB.out.size (fun j hj => by simp at hj; omega))
      clear hx2 hg2 HC hcl2
      go_wp2_with fail
      go_roundw
      case rel => exact ⟨j + 1, z.add p, by omega, by go_num, HZ1.out, ho2, HX2.out, HV2.out, HR2.out, HB2.out⟩
      case measure => simp [intOf]; omega
    · obtain rfl : j = l.length := by omega
      rw [List.take_of_length_le (Nat.le_refl _)] at HZ
      go_wp2_with fail
      have HC := Lib.hid (end_any S z hz wr HS.out HV.out)
      obtain ⟨L2, hL2⟩ : ∃ L2, u8s z.digest = L2 := ⟨_, rfl⟩
      have HLl := Lib.hid (show L2.length = 32 by rw [← hL2, u8s_len, Pl.digest_len])
      have HL1 := Lib.hid (show ∀ v ∈ L2, v.oneCell' = true by rw [← hL2]; exact u8s_one _)
      rw [hL2] at HC
      have HLe := Lib.hid hL2
      clear hL2
      with_reducible refine HC.out.mono ?_
      rintro _ W2 ⟨rfl, hg2⟩
      have hR2 := (hg2.block _ (blk_lt HR.out) (by simp; omega)).trans HR.out
      have hB2 := HB.out.grown hg2 HB.out.size (fun j hj => by simp at hj; omega)
      have HTH := Lib.hid (thereL (n := L2.toArray.size) hR2 (by rw [List.size_toArray, List.size_toArray, HLl.out, u8s_len, List.length_replicate]; exact Nat.le_refl _))
      have HR2 := Lib.hid hR2
      have HB2 := Lib.hid hB2
      clear hR2 hB2 hg2 HC HS HV HR HB
      go_wp2_with (with_reducible refine wpList_store_mid rfl 42 _ _ rfl R 0 L2.toArray rfl rfl HTH.out (by rw [List.size_toArray, HLl.out]; exact info_d32) (all_oneCell_toArray HL1.out) ?_)
      have hfin := heap_setCells_all HR2.out (vs := L2) (by rw [HLl.out, u8s_len, List.length_replicate])
      refine bodyPost_ret (v := .agg L2.toArray) (results_one rfl rfl (rangeL hfin) Tryz.underlying42 rfl (by rw [HLl.out]; exact info_d32)) rfl ?_
      refine ⟨by rw [HF.out, ← HZ.out, HLe.out], HB2.out.trans (Lib.below_setCells_w (by omega) _ _ _)⟩
end Go.Proofs.YtdnebgilkfafhaaGreatDoor
