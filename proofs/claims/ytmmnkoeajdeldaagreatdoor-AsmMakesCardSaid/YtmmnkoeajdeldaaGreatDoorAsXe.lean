/- The assembler makes a program of a text: whole. -/
import Derived.Test.YtmmnkoeajdeldaaGreatDoorAsXd
namespace Go.Proofs.YtmmnkoeajdeldaaGreatDoor
open Go.RowKit Go.Maps Go.WideMaps
set_option linter.unusedVariables false
set_option linter.unusedSimpArgs false
attribute [local go_sem] ba_get ba_cut ba_add fld_k fld_s fld_n
theorem AsAt.rebase {w w' : World} {H H' A ln : Nat} {Z : AsV} {Y : List (List UInt8 × Value)} (h : AsAt w H A ln Pl.St.nil Z Y) (hp : Z.p = .slice none 0 0) (hd : Z.d = .slice none 0 0) (ho : Z.o = .slice none 0 0) (hb : Below w.heap.size w w') (hH : w.heap.size ≤ H') (hH2 : H' ≤ w'.heap.size) : AsAt w' H' A ln Pl.St.nil Z Y := by
  have h' := h.new hb
  have hA := h.box.lt
  have hn := h.names.lt
  have hy := h.ways.lt
  exact ⟨h'.box, by omega, hH2, by rw [hp]; exact ⟨rfl, .inl ⟨rfl, rfl⟩⟩, by rw [hd]; exact ⟨rfl, .inl ⟨rfl, rfl⟩⟩, by rw [ho]; exact ⟨rfl, .inl ⟨rfl, rfl⟩⟩, h'.names, by omega, h'.ways, by omega, h'.ny⟩
theorem splitK_len' (sep : List UInt8) : ∀ (k : Nat) (s x : List UInt8), x ∈ Lib.splitK sep 0 k s → x.length ≤ s.length
  | 0, s, x, h => by rw [Lib.splitK, List.mem_singleton] at h; rw [h]; exact Nat.le_refl _
  | k + 1, s, x, h => by
    rw [Lib.splitK] at h
    split at h
    · rw [List.mem_singleton] at h; rw [h]; exact Nat.le_refl _
    · rcases List.mem_cons.1 h with rfl | h
      · rw [List.length_take]; exact Nat.min_le_right _ _
      · have := splitK_len' sep k _ x h
        simp at this; omega
theorem TkAt.ofOwn {w : World} {A base : Nat} {v : Value} {l : List Pl.Tk} (h : w.ownsRow base 115 3 v l.length (tksC l)) (hA : A < base) : TkAt w A w.heap.size v l := by
  have hl := fun b hb => h.lt b hb
  rcases h.2 with ⟨rfl, h0⟩ | ⟨g, cap, cur, rfl, hb, hg, hn, hm, hs, ht⟩
  · exact ⟨none, l.length, 0, by rw [h0], rfl, by omega, by obtain rfl := List.eq_nil_of_length_eq_zero h0; exact Rd.nil, fun x hx => by cases hx⟩
  · refine ⟨_, l.length, cap, rfl, rfl, hn, Rd.own h, fun x hx => ?_⟩
    cases hx
    have := hl g rfl
    exact ⟨by show g ≠ A; omega, this.2⟩
/-- What is left of a text's making. -/
def restP (k : Nat) (l : List (List UInt8)) (S : Pl.St) : Except (Nat × Nat) Pl.Exe := match Pl.linesP k (l.drop k) S with
  | .error e => .error e
  | .ok S' => Pl.progP S'
theorem lines_at (n k : Nat) (l : List (List UInt8)) (S : Pl.St) (hk : k < l.length) : Pl.linesP n (l.drop k) S = match Pl.toks l[k] with
    | none => .error (3, n + 1)
    | some t => match Pl.takeP (n + 1) t S with
      | .error e => .error (e, n + 1)
      | .ok S1 => Pl.linesP (n + 1) (l.drop (k + 1)) S1 := by
  rw [List.drop_eq_getElem_cons hk]; rfl
set_option maxRecDepth 100000 in
set_option maxHeartbeats 4000000 in
theorem make_short (t : List UInt8) (w : World) (ht : t.length ≤ 65536) (hv : VAsm w) : Calls Tryz.prog 9 #[.string ⟨t.toArray⟩] w (MakeQ w (Pl.mkP t)) := by
  have hmf : ∀ (fn : Fn) (first cap : Array Value) (w : World), (Instr.makeFunc fn first cap).run Tryz.prog w = .ok (.func fn first cap) w := fun _ _ _ _ => rfl
  obtain ⟨R, hR⟩ : ∃ R, Pl.mkP t = R := ⟨_, rfl⟩
  rw [hR]
  unfold Pl.mkP at hR
  rw [if_neg (by omega)] at hR
  obtain ⟨mx, hmx, hmxl⟩ := hv.max
  have hsp := fun W (hW : W.cell? ⟨2, 0, none⟩ = some (.int .i64 mx)) => Tryz.strings_Split ⟨t.toArray⟩ ⟨#[10]⟩ mx W (by simp [ByteArray.size]; omega) hW (by decide)
  have hdat : (Lib.splitB ⟨#[10]⟩ 0 (Lib.countB ⟨t.toArray⟩ ⟨#[10]⟩) ⟨t.toArray⟩).map (·.data.toList) = Lib.split t [10] := by
    rw [Lib.splitB_data]; simp [Lib.split, Lib.countB]
  have hlen := Lib.splitB_all ⟨#[10]⟩ (by decide) 0 _ ⟨t.toArray⟩ rfl
  obtain ⟨Zs, hZ⟩ : ∃ Zs, Lib.splitB ⟨#[10]⟩ 0 (Lib.countB ⟨t.toArray⟩ ⟨#[10]⟩) ⟨t.toArray⟩ = Zs := ⟨_, rfl⟩
  rw [hZ] at hdat hlen
  simp only [hZ] at hsp
  obtain ⟨n, hn⟩ : ∃ n, Lib.countB ⟨t.toArray⟩ ⟨#[10]⟩ + 1 = n := ⟨_, rfl⟩
  rw [hn] at hlen
  simp only [hn] at hsp
  have hn0 : 1 ≤ n := by omega
  have hn1 : n ≤ 65537 := by
    have := Lib.countB_le ⟨#[10]⟩ (by decide) _ ⟨t.toArray⟩ (Nat.le_refl _)
    simp [ByteArray.size] at this; omega
  clear hZ hn
  obtain ⟨ws, hws⟩ : ∃ ws, Lib.split t [10] = ws := ⟨_, rfl⟩
  have hwl : ws.length = n := by rw [← hws, ← hdat, List.length_map, hlen]
  have hZs : Zs.map Value.string = strs ws := by
    rw [← hws, ← hdat]; unfold strs; rw [List.map_map]; exact List.map_congr_left fun z _ => by simp [Function.comp]
  rw [hZs] at hsp
  have hwm : ∀ x ∈ ws, x.length ≤ 65536 := fun x hx => by
    rw [← hws] at hx
    have := splitK_len' _ _ _ _ hx
    omega
  unfold Pl.linesN at hR
  simp only [hws] at hR
  have HR := Lib.hid hR
  have HSP := Lib.hid hsp
  have HWS := Lib.hid (And.intro hwl hwm)
  have HV := Lib.hid hv
  clear hR hsp hdat hlen hws hwl hZs hwm hv
  go_enter_defers Tryz.func9, Tryz.ntmps9
  go_upto_region 1 with (fail)
  obtain ⟨M, hM⟩ : ∃ M, w.heap.size = M := ⟨_, rfl⟩
  obtain ⟨W, hW⟩ : ∃ W, ((w.alloc (.cells #[.slice none 0 0, .string ⟨#[]⟩, .int .i64 0, .int .u32 0] 26)).alloc (.cells #[.int .i64 0] 27)).alloc (.cells #[.int .i64 0] 3) = W := ⟨_, rfl⟩
  have hst := make_start hM hW
  have HST := Lib.hid hst
  have HM := Lib.hid hM
  rw [hM, hW]
  rw [hM] at hmxl
  clear hM hW hst
  go_wp2_with fail
  (with_reducible refine (begin_any W).mono ?_)
  rintro x W1 ⟨A, Z, rfl, ⟨hZs, hZp, hZd, hZo⟩, hAW, hZW, hA, hb1⟩
  have hWs := HST.out.2.2.2.2
  have hMA : M + 3 ≤ A := by omega
  have hMN : M + 3 ≤ Z.n := by omega
  have hbM : Below M w W1 := HST.out.2.2.2.1.trans (hb1.mono (by omega))
  have hm1 : W1.cell? ⟨2, 0, none⟩ = some (.int .i64 mx) := (hbM.cell (p := ⟨_, 0, none⟩) hmxl).trans hmx
  have hres1 := make_res HST.out hb1
  have HB1 := Lib.hid (And.intro hA (And.intro hb1 (And.intro hbM hres1)))
  have HZ := Lib.hid (And.intro hZs (And.intro hZp (And.intro hZd hZo)))
  have H1s : W.heap.size ≤ W1.heap.size := hb1.size
  clear hZs hZp hZd hZo hA hb1 hbM hres1 hAW hZW
  go_wp2_with fail
  (with_reducible refine (HSP.out W1 hm1).mono ?_)
  rintro e W2' ⟨rfl, hW2'⟩
  obtain ⟨L, hL⟩ : ∃ L, W1.heap.size = L := ⟨_, rfl⟩
  rw [hL]
  have hzL : W2'.heap[L]? = some (.cells (strs ws).toArray 9 (0, 0)) := by rw [hW2', ← hL]; exact heap_alloc_new _ _
  have hb2 : Below W1.heap.size W1 W2' := by rw [hW2']; exact (Below.refl _ _).alloc (Nat.le_refl _) _
  have hs2 : W2'.heap.size = L + 1 := by rw [hW2', ← hL]; simp
  have hA2 := HB1.out.1.rebase HZ.out.2.1 HZ.out.2.2.1 HZ.out.2.2.2 hb2 (H' := L + 1) (by omega) (Nat.le_of_eq hs2.symm)
  have hAL : A < L := by rw [← hL]; exact HB1.out.1.box.lt
  have hNL : Z.n < L := by rw [← hL]; exact HB1.out.1.names.lt
  have hML : M + 3 ≤ L := by omega
  have hcL : ∀ k (h : k < n), W2'.cell? ⟨L, k, none⟩ = some (.string ⟨(ws[k]'(by rw [HWS.out.1]; exact h)).toArray⟩) := fun k h => by
    rw [cell_row W2' L k _ _ hzL]; simp [strs, HWS.out.1, h]
  -- what stands at the door when something is thrown
  have hbW2 : Below M w W2' := by
    have h1 := HB1.out.2.2.1
    exact h1.trans (hb2.mono (by omega))
  have HBL : Hid (∀ U : World, LnK W2' U (L + 1) A Z.n → Below M w U ∧ Res3 U M (M + 1) (M + 1 + 1)) := Lib.hid (by
    intro U hU
    have hbl : ∀ k, k < M + 3 → U.heap[k]? = W1.heap[k]? := fun k hk => (hU.block k (by omega) (by omega) (by omega)).trans (hb2.block k (by omega))
    obtain ⟨v0, v1, v2, v3, hx⟩ := HB1.out.2.2.2.x
    obtain ⟨ve, he⟩ := HB1.out.2.2.2.e
    obtain ⟨vl, hl⟩ := HB1.out.2.2.2.l
    have h1 := HB1.out.2.2.1
    exact ⟨⟨hU.os.trans hbW2.os, hU.tape.trans hbW2.tape, hU.output.trans hbW2.output, Nat.le_trans h1.size (Nat.le_trans hb2.size hU.size), fun k hk => (hbl k (by omega)).trans (h1.block k hk)⟩, ⟨v0, v1, v2, v3, (hbl M (by omega)).trans hx⟩, ⟨ve, (hbl (M + 1) (by omega)).trans he⟩, ⟨vl, (hbl (M + 1 + 1) (by omega)).trans hl⟩, by omega, by omega, by omega⟩)
  have HD : Hid (∀ (U : World) (e l : Nat) (tm : Array Value), LnK W2' U (L + 1) A Z.n → R = .error (e, l) → tm[2]?.getD undef = .pointer (some ⟨M, 0, none⟩) → tm[3]?.getD undef = .pointer (some ⟨M + 1, 0, none⟩) → tm[4]?.getD undef = .pointer (some ⟨M + 1 + 1, 0, none⟩) → Leaves Tryz.prog Tryz.f9 tm (MakeQ w R) [mkDefer M] (.panicking [{ v := fltV e l, recovered := false }]) U) := Lib.hid (by
    intro U e l tm hU hRe t2 t3 t4
    rw [hRe]
    exact door_err t2 t3 t4 (HBL.out U hU).2 (by have h := (HBL.out U hU).1; exact h) HM.out)
  clear hW2'
  obtain ⟨last, hlast⟩ : ∃ x, ws[n - 1]'(by rw [HWS.out.1]; omega) = x := ⟨_, rfl⟩
  have hc1 := hcL (n - 1) (by omega)
  rw [hlast] at hc1
  have HC := Lib.hid hcL
  have HL := Lib.hid (And.intro hL (And.intro hzL (And.intro hb2 (And.intro hs2 (And.intro hA2 hlast)))))
  clear hL hzL hb2 hs2 hA2 hlast hcL
  go_upto_if 26 with (fail)
  go_cut [6] from 22 to 30 (fun s6 wx => ∃ m : Nat, s6 = .slice (some ⟨L, 0, none⟩) m n ∧ m ≤ n ∧ wx = W2' ∧ Hid ((if ws.getLast? = some [] then ws.dropLast else ws) = ws.take m))
  case first =>
    have hgl : ws.getLast? = some last := by
      rw [List.getLast?_eq_getElem?, HWS.out.1, List.getElem?_eq_getElem (by rw [HWS.out.1]; omega), HL.out.2.2.2.2.2]
    rcases last with _ | ⟨c, r⟩
    · go_wp2_with fail
      go_meet
      case rel => exact ⟨n - 1, rfl, by omega, rfl, Lib.hid (by rw [if_pos hgl, List.dropLast_eq_take, HWS.out.1])⟩
    · go_wp2_with fail
      go_meet
      case rel => exact ⟨n, rfl, Nat.le_refl _, rfl, Lib.hid (by rw [if_neg (by rw [hgl]; intro e; injection e with e; cases e), List.take_of_length_le (by rw [HWS.out.1]; exact Nat.le_refl _)])⟩
  case rest =>
    obtain ⟨m, rfl, hmn, rfl, hlq⟩ := hcut
    obtain ⟨W2', rfl⟩ : ∃ V, V = wc := ⟨_, rfl⟩
    obtain ⟨ls, hls⟩ : ∃ ls, ws.take m = ls := ⟨_, rfl⟩
    have hll : ls.length = m := by rw [← hls, List.length_take, HWS.out.1]; omega
    have hcl : ∀ k (h : k < ls.length), W2'.cell? ⟨L, k, none⟩ = some (.string ⟨ls[k].toArray⟩) := fun k h => by
      rw [HC.out k (by omega)]
      simp [← hls]
    have hlm : ∀ x ∈ ls, x.length ≤ 65536 := fun x hx => HWS.out.2 x (List.mem_of_mem_take (by rw [hls]; exact hx))
    have hr := HR.out
    rw [hlq.out, hls, hll] at hr
    clear hlq hls
    have HLS := Lib.hid (And.intro hll (And.intro hcl hlm))
    clear hll hcl hlm
    by_cases hbig : 400 < m
    · rw [if_pos hbig] at hr
      have HR0 := Lib.hid hr
      clear hr
      go_wp2_with fail
      (with_reducible refine (throw_any A 0 _ 6 6 rfl _ HL.out.2.2.2.2.1.box).mono ?_)
      rintro x w2 ⟨rfl, rfl⟩
      exact HD.out _ 6 0 _ (LnK.refl _ _ _ _) HR0.out.symm rfl rfl rfl
    · rw [if_neg hbig] at hr
      have HR0 : Hid (restP 0 ls Pl.St.nil = R) := Lib.hid hr
      clear hr
      have hm4 : m ≤ 400 := Nat.le_of_not_lt hbig
      clear hbig hmf hmx hm1 hc1
      go_wp2_with fail
      go_loopw [37] (fun i wr => ∃ (k lk : Nat) (S : Pl.St) (Z1 : AsV), k ≤ m ∧ i = .int .i64 (k : Int) ∧ AsAt wr (L + 1) A lk S Z1 (asY A) ∧ SInv S k ∧ Z1.n = Z.n ∧ Hid (Z1.s = .slice none 0 0) ∧ LnK W2' wr (L + 1) A Z.n ∧ Hid (restP k ls S = R)) (fun i _ => m - (intOf i).toNat)
      case atStart => exact ⟨0, 0, Pl.St.nil, Z, by omega, rfl, HL.out.2.2.2.2.1, SInv.nil, rfl, Lib.hid HZ.out.1, LnK.refl _ _ _ _, HR0⟩
      case round =>
        obtain ⟨k, lk, S, Z1, hk, rfl, hA, hSI, hn1, hZ1, hLK, HK⟩ := hrel
        have hAl := hA.box.lt
        have hCd := hA.box.c0
        have hC1 := hA.box.c1
        have hF0 := hA.box.froz 0
        have hF1 := hA.box.froz 1
        have HA := Lib.hid (And.intro hA (And.intro hSI (And.intro hn1 hLK)))
        clear hA hSI hn1 hLK
        by_cases hkm : k < m
        · have hkl : k < ls.length := by rw [HLS.out.1]; exact hkm
          have hcell : wr.cell? ⟨L, k, none⟩ = some (.string ⟨ls[k].toArray⟩) := (World.cell?_of_block (a := ⟨L, k, none⟩) (HA.out.2.2.2.block L (by omega) (by omega) (by omega))).trans (HLS.out.2.1 k hkl)
          obtain ⟨x, hx⟩ : ∃ x, ls[k] = x := ⟨_, rfl⟩
          have hxm := HLS.out.2.2 ls[k] (List.getElem_mem hkl)
          rw [hx] at hcell hxm
          have HX := Lib.hid hx
          clear hx
          go_wp2_with fail
          obtain ⟨U, hU⟩ : ∃ U, wr.setCell ⟨A, 0, none⟩ (.int .i64 ((k : Int) + 1)) = U := ⟨_, rfl⟩
          have hgU : wr.grownBy U (some A) := by rw [← hU]; exact grown_cell _ _ _ _
          have hAU : AsAt U (L + 1) A (k + 1) S Z1 (asY A) := HA.out.1.stepG hgU (by rw [← hU]; exact HA.out.1.box.set0 (k + 1)) rfl rfl rfl rfl rfl
          have hLU : LnK W2' U (L + 1) A Z.n := HA.out.2.2.2.trans (LnK.box hgU HA.out.1.hi)
          have hHU := HA.out.1.hi
          have hsU := hgU.size
          rw [hU]
          have hvU := HV.out.below (by rw [HM.out]; exact (HBL.out U hLU).1)
          have HU := Lib.hid (And.intro hAU (And.intro hLU hvU))
          clear hU hgU hAU hLU hvU hCd hC1 hF0 hF1 hcell
          have hst := HK.out
          unfold restP at hst
          rw [lines_at k k ls S hkl, HX.out] at hst
          have HST2 := Lib.hid hst
          clear hst
          (with_reducible refine (scan_any A (k + 1) Z1 x U HU.out.1.box (by omega) HU.out.2.2.rng).mono ?_)
          rintro y w2 ⟨hb2, h⟩
          obtain ⟨T, hT⟩ : ∃ T, Pl.toks x = T := ⟨_, rfl⟩
          have hst := HST2.out
          rw [hT] at h hst
          have hL2 : LnK W2' w2 (L + 1) A Z.n := HU.out.2.1.trans (LnK.low hb2 (by omega))
          rcases T with _ | l
          · obtain rfl := h
            exact HD.out _ 3 (k + 1) _ hL2 hst.symm rfl rfl rfl
          · obtain ⟨v, rfl, hown⟩ := h
            obtain ⟨tA, tc, rfl⟩ := own_form' hown
            obtain ⟨htk, hts⟩ := toks_ok hxm hT
            have hA2 := HU.out.1.new hb2
            have hF2 := hA2.box.froz 1
            have hC2 := hA2.box.c1
            have hA2l := hA2.box.lt
            have hL2s := hL2.size
            have hv2 := HV.out.below (by rw [HM.out]; exact (HBL.out w2 hL2).1)
            have H2 := Lib.hid (And.intro hA2 (And.intro hL2 (And.intro hown (And.intro htk (And.intro hts (And.intro hst hv2))))))
            have hUs := hb2.size
            clear hA2 hL2 hown htk hts hst hb2 HST2 hT hv2
            go_wp2_with fail
            obtain ⟨v, hv⟩ : ∃ v : Value, .slice tA l.length tc = v := ⟨_, rfl⟩
            rw [hv]
            obtain ⟨W3, hW3⟩ : ∃ W3, w2.setCell ⟨A, 1, none⟩ v = W3 := ⟨_, rfl⟩
            have hg3 : w2.grownBy W3 (some A) := by rw [← hW3]; exact grown_cell _ _ _ _
            have hA3 : AsAt W3 (L + 1) A (k + 1) S { Z1 with r := v } (asY A) := H2.out.1.step hg3 (by rw [← hW3]; exact H2.out.1.box.set1 v)
            have hT3 : TkAt W3 A W3.heap.size v l := by
              have h := AsAt.others (S := S) (Y := asY A) H2.out.1.box 1 v (by decide) H2.out.2.2.1
              rw [hv, hW3] at h
              exact TkAt.ofOwn h (by omega)
            have hL3 : LnK W2' W3 (L + 1) A Z.n := H2.out.2.1.trans (LnK.box hg3 H2.out.1.hi)
            have hv3 := HV.out.below (by rw [HM.out]; exact (HBL.out W3 hL3).1)
            have hop := HV.out.ops.lt
            rw [HM.out] at hop
            rw [hW3]
            clear hW3 hg3 hv hF2 hC2
            have hk400 : k ≤ 400 := by omega
            have hn1 := HA.out.2.2.1
            (with_reducible refine (take_any (L + 1) A W3.heap.size (k + 1) S _ l W3 hA3 hT3 (Nat.le_refl _) (HA.out.2.1.stOk (by omega)) H2.out.2.2.2.1 hv3.ops ⟨by omega, by show _ < Z1.n; omega⟩).mono ?_)
            rintro y w4 ⟨hk4, h⟩
            obtain ⟨E, hE⟩ : ∃ E, Pl.takeP (k + 1) l S = E := ⟨_, rfl⟩
            have hst := H2.out.2.2.2.2.2.1
            simp only [hE] at h hst
            have hL4 : LnK W2' w4 (L + 1) A Z.n := hL3.trans (by rw [← hn1]; exact hk4)
            rcases E with e | S1
            · obtain rfl := h
              exact HD.out _ e (k + 1) _ hL4 hst.symm rfl rfl rfl
            · obtain ⟨rfl, Z4, hn4, -, hs4, hA4⟩ := h
              have hI := take_inv HA.out.2.1 hk400 (by omega) H2.out.2.2.2.1 H2.out.2.2.2.2.1 hE
              have H4 := Lib.hid (And.intro hA4 (And.intro hI (And.intro hL4 hst)))
              have hz4 : Z4.s = .slice none 0 0 := by rw [hs4]; exact hZ1.out
              have hnn : Z4.n = Z.n := by rw [hn4]; exact hn1
              clear hA4 hI hL4 hst hA3 hT3 hL3 hv3 hE hk4 hs4
              go_wp2_with fail
              refine ⟨⟨k + 1, k + 1, S1, Z4, by omega, ret_i (by omega), H4.out.1, H4.out.2.1, hnn, Lib.hid hz4, H4.out.2.2.1, Lib.hid H4.out.2.2.2⟩, by simp only [intOf]; omega⟩
        · have hkm2 : k = m := by omega
          have hst := HK.out
          unfold restP at hst
          rw [List.drop_eq_nil_of_le (by rw [HLS.out.1]; omega)] at hst
          have HST2 : Hid (Pl.progP S = R) := Lib.hid hst
          clear hst hCd hC1 hF0 hF1
          go_wp2_with fail
          have hz1 := hZ1.out
          (with_reducible refine (program_any (L + 1) A lk S Z1 (asY A) wr HA.out.1 (HA.out.2.1.all (by omega)) hz1).mono ?_)
          rintro y w4 ⟨hk4, h⟩
          have hn1 := HA.out.2.2.1
          have hL4 : LnK W2' w4 (L + 1) A Z.n := HA.out.2.2.2.trans (by rw [← hn1]; exact hk4)
          rw [HST2.out] at h
          rcases R with ⟨e, l⟩ | X
          · obtain rfl := h
            exact HD.out _ e l _ hL4 rfl rfl rfl rfl
          · obtain ⟨tA, tc, rfl, hown⟩ := h
            have hres := (HBL.out w4 hL4).2
            have hbw4 := (HBL.out w4 hL4).1
            obtain ⟨v0, v1, v2, v3, hx⟩ := hres.x
            obtain ⟨ve, he⟩ := hres.e
            obtain ⟨vl, hl⟩ := hres.l
            have x0 : w4.cell? ⟨M, 0, none⟩ = some v0 := by rw [cell_row w4 M 0 _ _ hx]; rfl
            have x1 : w4.cell? ⟨M, 1, none⟩ = some v1 := by rw [cell_row w4 M 1 _ _ hx]; rfl
            have x2 : w4.cell? ⟨M, 2, none⟩ = some v2 := by rw [cell_row w4 M 2 _ _ hx]; rfl
            have x3 : w4.cell? ⟨M, 3, none⟩ = some v3 := by rw [cell_row w4 M 3 _ _ hx]; rfl
            have y0 : w4.cell? ⟨M + 1, 0, none⟩ = some ve := by rw [cell_row w4 (M + 1) 0 _ _ he]; rfl
            have z0 : w4.cell? ⟨M + 1 + 1, 0, none⟩ = some vl := by rw [cell_row w4 (M + 1 + 1) 0 _ _ hl]; rfl
            have f0 := frozen_of w4 M 0 _ _ hx
            have f1 := frozen_of w4 M 1 _ _ hx
            have f2 := frozen_of w4 M 2 _ _ hx
            have f3 := frozen_of w4 M 3 _ _ hx
            have g0 := frozen_of w4 (M + 1) 0 _ _ he
            have k0 := frozen_of w4 (M + 1 + 1) 0 _ _ hl
            have hwr : W2'.heap.size ≤ wr.heap.size := HA.out.2.2.2.size
            have HF := Lib.hid (And.intro hx (And.intro he (And.intro hl (And.intro hbw4 hown))))
            clear hx he hl hbw4 hown hres hL4 hk4 hAl
            unfold xeV
            go_wp2_with fail
            clear x0 x1 x2 x3 y0 z0 f0 f1 f2 f3 g0 k0
            obtain ⟨hx, he, hl, hbw4, hown⟩ := HF.out
            have hx4 := set_at _ M 3 _ (.int .u32 (X.entry : Int)) _ (set_at _ M 2 _ (.int .i64 X.room) _ (set_at _ M 1 _ (.string ⟨X.data.toArray⟩) _ (set_at w4 M 0 _ (.slice tA X.text.length tc) _ hx)))
            obtain ⟨w5, hw5⟩ : ∃ w5, (((w4.setCell ⟨M, 0, none⟩ (.slice tA X.text.length tc)).setCell ⟨M, 1, none⟩ (.string ⟨X.data.toArray⟩)).setCell ⟨M, 2, none⟩ (.int .i64 X.room)).setCell ⟨M, 3, none⟩ (.int .u32 (X.entry : Int)) = w5 := ⟨_, rfl⟩
            have hg5 : w4.grownBy w5 (some M) := by rw [← hw5]; exact (((grown_cell _ _ _ _).trans (grown_cell _ _ _ _)).trans (grown_cell _ _ _ _)).trans (grown_cell _ _ _ _)
            rw [hw5] at hx4 ⊢
            clear hw5
            have he5 := (hg5.block (M + 1) (blk_lt he) (by simp)).trans he
            have hl5 := (hg5.block (M + 1 + 1) (blk_lt hl) (by simp; omega)).trans hl
            have he6 := set_at w5 (M + 1) 0 _ (.int .i64 0) _ he5
            obtain ⟨w6, hw6⟩ : ∃ w6, w5.setCell ⟨M + 1, 0, none⟩ (.int .i64 0) = w6 := ⟨_, rfl⟩
            have hg6 : w5.grownBy w6 (some (M + 1)) := by rw [← hw6]; exact grown_cell _ _ _ _
            rw [hw6] at he6 ⊢
            clear hw6
            have hx6 := (hg6.block M (blk_lt hx4) (by simp)).trans hx4
            have hl6 := (hg6.block (M + 1 + 1) (blk_lt hl5) (by simp)).trans hl5
            have hl7 := set_at w6 (M + 1 + 1) 0 _ (.int .i64 0) _ hl6
            obtain ⟨w7, hw7⟩ : ∃ w7, w6.setCell ⟨M + 1 + 1, 0, none⟩ (.int .i64 0) = w7 := ⟨_, rfl⟩
            have hg7 : w6.grownBy w7 (some (M + 1 + 1)) := by rw [← hw7]; exact grown_cell _ _ _ _
            rw [hw7] at hl7 ⊢
            clear hw7
            have hx7 := (hg7.block M (blk_lt hx6) (by simp; omega)).trans hx6
            have he7 := (hg7.block (M + 1) (blk_lt he6) (by simp)).trans he6
            have hsz := HL.out.2.2.2.1
            have hb7 : Below M w w7 := ⟨hg7.os.trans (hg6.os.trans (hg5.os.trans hbw4.os)), hg7.tape.trans (hg6.tape.trans (hg5.tape.trans hbw4.tape)), hg7.output.trans (hg6.output.trans (hg5.output.trans hbw4.output)), Nat.le_trans hbw4.size (Nat.le_trans hg5.size (Nat.le_trans hg6.size hg7.size)), fun j hj => by
              have hj4 : j < w4.heap.size := Nat.lt_trans hj (blk_lt hx)
              have hj5 := Nat.lt_of_lt_of_le hj4 hg5.size
              have hj6 := Nat.lt_of_lt_of_le hj5 hg6.size
              exact (hg7.block j hj6 (by simp; omega)).trans ((hg6.block j hj5 (by simp; omega)).trans ((hg5.block j hj4 (by simp; omega)).trans (hbw4.block j hj)))⟩
            have hown7 := own_same (w' := w7) hown (fun b hb => by
              have h := hown.lt b hb
              have h5 := Nat.lt_of_lt_of_le h.2 hg5.size
              have h6 := Nat.lt_of_lt_of_le h5 hg6.size
              exact (hg7.block b h6 (by simp; omega)).trans ((hg6.block b h5 (by simp; omega)).trans (hg5.block b h.2 (by simp; omega))))
            refine door_ok rfl rfl rfl hx7 he7 hl7 ⟨by rw [HM.out]; exact hb7, tA, tc, rfl, own_base hown7 (by rw [HM.out]; omega)⟩
/-- The program of any text, or why not. -/
theorem make_any (t : List UInt8) (w : World) (ht : t.length ≤ 140737488355328) (hv : VAsm w) : Calls Tryz.prog 9 #[.string ⟨t.toArray⟩] w (MakeQ w (Pl.mkP t)) := by
  by_cases h : t.length ≤ 65536
  · exact make_short t w h hv
  · have e : Pl.mkP t = .error (6, 0) := by unfold Pl.mkP; rw [if_pos (by omega)]
    rw [e]
    exact make_long t w ht (by omega)
end Go.Proofs.YtmmnkoeajdeldaaGreatDoor
