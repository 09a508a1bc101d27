/- The walk of strings.HasPrefix. The walk of shelf.Names. -/
import Derived.Test.YtdnebgilkfafhaaGreatDoorShW1
import Derived.Test.YtdnebgilkfafhaaGreatDoorShPlain
namespace Go.Proofs.YtdnebgilkfafhaaGreatDoor
open Go.RowKit
set_option linter.unusedVariables false
set_option linter.unusedSimpArgs false
attribute [local go_sem] ba_get ba_add ba_cut List.drop_zero Nat.sub_zero


set_option maxRecDepth 100000 in
theorem hasPreL_any (s p : List UInt8) (w : World) : Calls Tryz.prog 124 #[.string ⟨s.toArray⟩, .string ⟨p.toArray⟩] w (Ret (.bool (Pl.hasPre s p)) w) := by
  obtain ⟨q, hq⟩ : ∃ q, Pl.hasPre s p = q := ⟨_, rfl⟩
  rw [hq]
  unfold Pl.hasPre at hq
  by_cases hl : p.length ≤ s.length
  · have hq' : (s.take p.length == p) = q := by rw [← hq]; simp [hl]
    have HQ := Lib.hid hq'; clear hq hq'
    go_enter Tryz.func124, Tryz.ntmps124
    go_wp2_with fail
    go_ret
    exact ⟨by rw [← HQ.out]; rfl, rfl⟩
  · have hq' : q = false := by rw [← hq]; simp [hl]
    subst hq'
    clear hq
    have hl' : ¬ (p.length : Int) ≤ (s.length : Int) := by omega
    go_enter Tryz.func124, Tryz.ntmps124
    go_wp2_with fail
    go_ret
    exact ⟨rfl, rfl⟩
set_option maxRecDepth 100000 in
theorem hasPre_any (s p : List UInt8) (w : World) : Calls Tryz.prog 90 #[.string ⟨s.toArray⟩, .string ⟨p.toArray⟩] w (Ret (.bool (Pl.hasPre s p)) w) := by
  go_enter Tryz.func90, Tryz.ntmps90
  go_wp2_with fail
  (with_reducible refine (hasPreL_any _ _ _).mono ?_)
  rintro e w1 ⟨rfl, rfl⟩
  go_wp2_with fail
  go_ret
  exact ⟨rfl, rfl⟩
end Go.Proofs.YtdnebgilkfafhaaGreatDoor
namespace Go.Proofs.YtdnebgilkfafhaaGreatDoor
open Go.RowKit
set_option linter.unusedVariables false
set_option linter.unusedSimpArgs false

/-- What Names answers. -/
def NamesOut (b0 : Nat) (l : List Pl.Obj) (F : List Int) (ns : List (List UInt8)) (e : Nat) (v : Value) (w : World) : Prop :=
  ∃ A c A' c' An cn, v = .tuple #[.agg #[.slice A l.length c, .slice A' F.length c'], .slice An ns.length cn, .int .i64 (e : Int)] ∧ SlO b0 w A l.length c l ∧ SlF b0 w A' F.length c' F ∧ SlAt w 1 An ns.length cn (strs ns)
set_option maxRecDepth 100000 in
set_option maxHeartbeats 2000000 in
theorem names_bad (A A' : Option Addr) (n c m c' : Nat) (l : List Pl.Obj) (F : List Int) (p : List UInt8) (w : World) (hl : l.length = n) (hF : F.length = m) (hr : SlAt w 4 A n c (objCs l)) (hr' : SlAt w 1 A' m c' (ints F)) (hn : n ≤ 2513169434900) (hm : m ≤ 17592186044000)
    (hk : Pl.chk l ≠ 0) :
    Calls Tryz.prog 53 #[.agg #[.slice A n c, .slice A' m c'], .string ⟨p.toArray⟩] w (RetB (NamesOut w.heap.size l F [] (Pl.chk l)) w) := by
  obtain ⟨E, hE⟩ : ∃ E, Pl.chk l = E := ⟨_, rfl⟩
  rw [hE] at hk ⊢
  have hco := fun w h h' => copied_any A A' n c m c' l F w hl hF h h' hn hm
  have has := fun A A' c c' w h => check_any A A' n c m c' l w hl h hn
  rw [hE] at has
  have HC := Lib.hid (And.intro hco (And.intro has (And.intro hl hF))); clear hco has hl hF hE
  go_enter Tryz.func53, Tryz.ntmps53
  go_wp2_with fail
  have hb0 := bx_new w A A' n c m c'
  obtain ⟨V, hV⟩ : ∃ V, (w.alloc (.cells #[.slice A n c, .slice A' m c'] 26)).alloc (.cells #[.slice none 0 0, .slice none 0 0] 26) = V := ⟨_, rfl⟩
  rw [hV] at hb0 ⊢
  clear hV
  (with_reducible refine (HC.out.1 V (hr.below hb0.bel) (hr'.below hb0.bel)).mono ?_)
  rintro e w1 ⟨v, rfl, ⟨A1, c1, A2, c2, rfl, ho1, ho2⟩, hb1⟩
  rw [HC.out.2.2.1] at ho1 ⊢
  rw [HC.out.2.2.2] at ho2 ⊢
  have hx1 := hb0.below hb1
  obtain ⟨x0, x1, r0, r1, xf, rf⟩ := hx1.cells
  have hsz := hb0.siz
  have hof := own_off ho2 (B := w.heap.size) (by omega)
  have hof1 := own_off ho2 (B := w.heap.size + 1) (by omega)
  have hp := hx1.put (own_base ho1 (by omega)) (own_sl ho2) hof hof1 (own_ty ho2)
  go_wp2_with fail
  obtain ⟨W, hW⟩ : ∃ W, (w1.setCell ⟨w.heap.size, 0, none⟩ (.slice A1 n c1)).setCell ⟨w.heap.size, 1, none⟩ (.slice A2 m c2) = W := ⟨_, rfl⟩
  rw [hW] at hp ⊢
  clear hW x0 x1 r0 r1 xf rf ho1 ho2 hx1
  (with_reducible refine (HC.out.2.1 _ _ _ _ _ (Rd.own hp.obj)).mono ?_)
  rintro e w2 ⟨v, rfl, rfl, hb2⟩
  have hp2 := hp.below hb2
  obtain ⟨x0, x1, r0, r1, xf, rf⟩ := hp2.cells
  have q2 : ((E : Int) != 0) = true := by simp; omega
  go_wp2_with fail
  refine bodyPost_ret (v := .tuple #[.agg #[.slice A1 n c1, .slice A2 m c2], .slice none 0 0, .int .i64 (E : Int)]) (by simp [results, Tryz.results53, go_sem, r0, r1]) rfl ?_
  obtain ⟨g1, g2, g3⟩ := hp2.ret
  refine ⟨_, rfl, ⟨A1, c1, A2, c2, none, 0, ?_, ?_, ?_, ⟨Rd.nil, by simp, by simp, fun _ => rfl⟩⟩, g3⟩
  · rw [HC.out.2.2.1, HC.out.2.2.2]; rfl
  · rw [HC.out.2.2.1]; exact g1
  · rw [HC.out.2.2.2]; exact g2
set_option maxRecDepth 100000 in
set_option maxHeartbeats 4000000 in
theorem names_good (A A' : Option Addr) (n c m c' : Nat) (l : List Pl.Obj) (F : List Int) (p : List UInt8) (w : World) (hl : l.length = n) (hF : F.length = m) (hr : SlAt w 4 A n c (objCs l)) (hr' : SlAt w 1 A' m c' (ints F)) (hn : n ≤ 2513169434900) (hm : m ≤ 17592186044000)
    (hok : Pl.chk l = 0) :
    Calls Tryz.prog 53 #[.agg #[.slice A n c, .slice A' m c'], .string ⟨p.toArray⟩] w (RetB (NamesOut w.heap.size l F.tail (Pl.namesR l (F.headD 0) p).1 (Pl.namesR l (F.headD 0) p).2) w) := by
  have hco := fun w h h' => copied_any A A' n c m c' l F w hl hF h h' hn hm
  have has := fun A A' c c' w h => check_any A A' n c m c' l w hl h hn
  have htk := fun A A' c c' w h => taken_any A A' n c m c' F w hF h
  have hfd := fun s w => hasPre_any s p w
  rw [hok] at has
  obtain ⟨f, hf⟩ : ∃ f, F.headD 0 = f := ⟨_, rfl⟩
  obtain ⟨T, hT⟩ : ∃ T, F.tail = T := ⟨_, rfl⟩
  obtain ⟨R, hR⟩ : ∃ R, Pl.namesR l f p = R := ⟨_, rfl⟩
  unfold TakenOut at htk
  simp only [hf, hT] at htk ⊢
  rw [hR]
  unfold Pl.namesR at hR
  have HC := Lib.hid (And.intro hco (And.intro has (And.intro htk (And.intro hfd (And.intro hl (And.intro hF hR))))))
  clear hco has htk hfd hl hF hok hf hT hR
  go_enter Tryz.func53, Tryz.ntmps53
  go_wp2_with fail
  have hb0 := bx_new w A A' n c m c'
  obtain ⟨V, hV⟩ : ∃ V, (w.alloc (.cells #[.slice A n c, .slice A' m c'] 26)).alloc (.cells #[.slice none 0 0, .slice none 0 0] 26) = V := ⟨_, rfl⟩
  rw [hV] at hb0 ⊢
  clear hV
  (with_reducible refine (HC.out.1 V (hr.below hb0.bel) (hr'.below hb0.bel)).mono ?_)
  rintro e w1 ⟨v, rfl, ⟨A1, c1, A2, c2, rfl, ho1, ho2⟩, hb1⟩
  rw [HC.out.2.2.2.2.1] at ho1 ⊢
  rw [HC.out.2.2.2.2.2.1] at ho2 ⊢
  have hx1 := hb0.below hb1
  obtain ⟨x0, x1, r0, r1, xf, rf⟩ := hx1.cells
  have hsz := hb0.siz
  have hof := own_off ho2 (B := w.heap.size) (by omega)
  have hof1 := own_off ho2 (B := w.heap.size + 1) (by omega)
  have hp := hx1.put (own_base ho1 (by omega)) (own_sl ho2) hof hof1 (own_ty ho2)
  go_wp2_with fail
  obtain ⟨W, hW⟩ : ∃ W, (w1.setCell ⟨w.heap.size, 0, none⟩ (.slice A1 n c1)).setCell ⟨w.heap.size, 1, none⟩ (.slice A2 m c2) = W := ⟨_, rfl⟩
  rw [hW] at hp ⊢
  clear hW x0 x1 r0 r1 xf rf ho1 ho2 hx1
  (with_reducible refine (HC.out.2.1 _ _ _ _ _ (Rd.own hp.obj)).mono ?_)
  rintro e w2 ⟨v, rfl, rfl, hb2⟩
  have hp2 := hp.below hb2
  obtain ⟨x0, x1, r0, r1, xf, rf⟩ := hp2.cells
  go_wp2_with fail
  (with_reducible refine (HC.out.2.2.1 _ _ _ _ _ hp2.fat).mono ?_)
  rintro e w3 ⟨v, rfl, ⟨A3, c3, rfl, hs3, hbk⟩, hb3⟩
  have hp3 := hp2.below hb3
  clear x0 x1 r0 r1 xf rf hp
  obtain ⟨x0, x1, r0, r1, xf, rf⟩ := hp3.cells
  have hq := hp3.toBx0.put hp3.obj hs3 (by rw [hbk]; exact hof) (by rw [hbk]; exact hof1) (by unfold FTy; rw [hbk]; exact hp3.fty)
  obtain ⟨t, ht⟩ : ∃ t, T.length = t := ⟨_, rfl⟩
  rw [ht] at hq ⊢
  have HT := Lib.hid ht; clear ht
  have hR := HC.out.2.2.2.2.2.2
  by_cases h4 : f = 4
  · have HR := Lib.hid (show R = ([], 17) by rw [← hR, if_pos h4]); clear hR
    subst h4
    go_wp2_with fail
    refine bodyPost_ret (v := .tuple #[.agg #[.slice A1 n c1, .slice A3 t c3], .slice none 0 0, .int .i64 17]) (by simp [results, Tryz.results53, go_sem, r0, r1]) rfl ?_
    obtain ⟨g1, g2, g3⟩ := hq.ret
    refine ⟨_, rfl, ⟨A1, c1, A3, c3, none, 0, ?_, ?_, ?_, ?_⟩, g3⟩
    · rw [HR.out, HC.out.2.2.2.2.1, HT.out]; rfl
    · rw [HC.out.2.2.2.2.1]; exact g1
    · rw [HT.out]; exact g2
    · rw [HR.out]; exact ⟨Rd.nil, by simp, by simp, fun _ => rfl⟩
  have q4 : (f == 4) = false := beq_eq_false_iff_ne.2 h4
  by_cases h1 : f = 1
  · have HR := Lib.hid (show R = ([], 0) by rw [← hR, if_neg h4, if_pos h1]); clear hR q4 h4
    subst h1
    go_wp2_with fail
    refine bodyPost_ret (v := .tuple #[.agg #[.slice A1 n c1, .slice A3 t c3], .slice none 0 0, .int .i64 0]) (by simp [results, Tryz.results53, go_sem, r0, r1]) rfl ?_
    obtain ⟨g1, g2, g3⟩ := hq.ret
    refine ⟨_, rfl, ⟨A1, c1, A3, c3, none, 0, ?_, ?_, ?_, ?_⟩, g3⟩
    · rw [HR.out, HC.out.2.2.2.2.1, HT.out]; rfl
    · rw [HC.out.2.2.2.2.1]; exact g1
    · rw [HT.out]; exact g2
    · rw [HR.out]; exact ⟨Rd.nil, by simp, by simp, fun _ => rfl⟩
  have q1 : (f == 1) = false := beq_eq_false_iff_ne.2 h1
  have HR := Lib.hid (show R = (Pl.nms l f p, 0) by rw [← hR, if_neg h4, if_neg h1]); clear hR h1 h4
  have HI := Lib.hid info_str
  obtain ⟨x3, hx3⟩ : ∃ q, (f != 3) = q := ⟨_, rfl⟩
  go_wp2_with fail
  obtain ⟨W3, hW3⟩ : ∃ W, (w3.setCell ⟨w.heap.size, 0, none⟩ (.slice A1 n c1)).setCell ⟨w.heap.size, 1, none⟩ (.slice A3 t c3) = W := ⟨_, rfl⟩
  rw [hW3] at hq ⊢
  clear hW3 x0 x1 r0 r1 xf rf hp2 hp3
  go_loopw [9, 35] (fun lv i wr => ∃ (j : Nat), j ≤ n ∧ i = .int .i64 (j : Nat) ∧ wr.ownsRow W3.heap.size 9 1 lv (Pl.nms (l.take j) f p).length (strs (Pl.nms (l.take j) f p)) ∧ Below W3.heap.size W3 wr) (fun _ i _ => n - (intOf i).toNat)
  case atStart => exact ⟨0, by omega, rfl, World.ownsRow_nil _ _ _ _, Below.refl _ _⟩
  case round =>
    obtain ⟨j, hj, rfl, hown, hbr⟩ := hrel
    have hqr := hq.below hbr
    by_cases hjn : j < n
    · have hjl : j < l.length := by rw [HC.out.2.2.2.2.1]; exact hjn
      obtain ⟨b, off, rfl, hlt, p0, p1, p2, p3⟩ := (Rd.own hqr.obj).obj HC.out.2.2.2.2.1 hjn
      obtain ⟨y, hy⟩ : ∃ y, l[j] = y := ⟨_, rfl⟩
      have hst := Pl.nms_step l f p j hjl
      have hle := Pl.nms_len (l.take j) f p
      have hle2 : (l.take j).length ≤ j := List.length_take_le _ _
      rw [hy] at p0 p1 p2 p3 hst
      obtain ⟨ns, hns⟩ : ∃ x, Pl.nms (l.take j) f p = x := ⟨_, rfl⟩
      rw [hns] at hst hown hle
      have HS := Lib.hid hst; clear hst hns hy
      have hlen : ns.length ≤ j := by omega
      clear hle hle2
      obtain ⟨nm, dt, ws, hd⟩ := y
      simp only at p0 p1 p2 p3
      have hx0 : wr.cell? ⟨w.heap.size, 0, none⟩ = some (.slice (some ⟨b, off, none⟩) n c1) := hqr.toBx0.cells.1
      obtain ⟨q, hq1⟩ : ∃ q, Pl.hasPre nm p = q := ⟨_, rfl⟩
      have hmn := fun w => HC.out.2.2.2.1 nm w
      rw [hq1] at hmn
      have HM := Lib.hid (And.intro hmn hq1); clear hmn hq1
      have hsel : Pl.selN f p ⟨nm, dt, ws, hd⟩ = (q && (x3 || hd)) := by unfold Pl.selN; rw [HM.out.2, hx3]
      rw [hsel] at HS
      clear hsel
      have hb1 := (Below.refl wr.heap.size wr).alloc (Nat.le_refl _) (.cells #[.string ⟨nm.toArray⟩, .string ⟨dt.toArray⟩, .string ⟨ws.toArray⟩, .bool hd] 49)
      have hbr1 := hbr.alloc hbr.size (.cells #[.string ⟨nm.toArray⟩, .string ⟨dt.toArray⟩, .string ⟨ws.toArray⟩, .bool hd] 49)
      have hown1 := own_below hown hb1
      have HB := Lib.hid (And.intro (show (wr.alloc (.cells #[.string ⟨nm.toArray⟩, .string ⟨dt.toArray⟩, .string ⟨ws.toArray⟩, .bool hd] 49)).cell? ⟨wr.heap.size, 0, none⟩ = some (.string ⟨nm.toArray⟩) by simp [go_sem]) (show (wr.alloc (.cells #[.string ⟨nm.toArray⟩, .string ⟨dt.toArray⟩, .string ⟨ws.toArray⟩, .bool hd] 49)).cell? ⟨wr.heap.size, 3, none⟩ = some (.bool hd) by simp [go_sem]))
      cases q
      · go_wp2_with fail
        (with_reducible refine (HM.out.1 _).mono ?_)
        rintro e w4 ⟨rfl, rfl⟩
        go_wp2_with fail
        go_roundw
        case rel => exact ⟨j + 1, by omega, by go_num, by rw [HS.out]; simpa using hown1, hbr1⟩
        case measure => simp [intOf]; omega
      · by_cases hxd : (x3 || hd) = true
        · rw [hxd] at HS
          have HXD := Lib.hid hxd; clear hxd
          obtain ⟨rfl, rfl⟩ | ⟨rfl, rfl⟩ | ⟨rfl, rfl⟩ : (x3 = true ∧ hd = true) ∨ (x3 = true ∧ hd = false) ∨ (x3 = false ∧ hd = true) := by
            have := HXD.out
            cases x3 <;> cases hd <;> simp_all
          all_goals
              (go_wp2_with fail
               (with_reducible refine (HM.out.1 _).mono ?_)
               rintro e w4 ⟨rfl, hw4⟩
               obtain ⟨hc4, hc5⟩ := HB.out
               rw [hw4] at hc4 hc5
               rw [hw4] at hown1 hbr1
               clear hw4
               go_wp2_with (at_builtin; refine push_one rfl (.tmp 51) (.tmp 54) 22 rfl W3.heap.size 9 (.string ⟨#[]⟩) 16 Tryz.underlying22 HI.out rfl _ _ _ _ _ rfl hown1 rfl rfl (by omega) (by omega) hbr1.size ?_; intro v' w5 hown2 hb2)
               go_roundw
               case rel => exact ⟨j + 1, by omega, by go_num, by rw [HS.out]; simpa [strs] using hown2, hbr1.trans hb2⟩
               case measure => simp [intOf]; omega)
        · have hxf : (x3 || hd) = false := by simpa using hxd
          rw [hxf] at HS
          clear hxd
          have e1 : x3 = false := by cases x3 <;> simp_all
          have e2 : hd = false := by cases hd <;> simp_all
          subst e1 e2
          clear hxf
          go_wp2_with fail
          (with_reducible refine (HM.out.1 _).mono ?_)
          rintro e w4 ⟨rfl, rfl⟩
          go_wp2_with fail
          go_roundw
          case rel => exact ⟨j + 1, by omega, by go_num, by rw [HS.out]; simpa using hown1, hbr1⟩
          case measure => simp [intOf]; omega
    · obtain rfl : j = n := by omega
      obtain ⟨ns, hns⟩ : ∃ x, Pl.nms (l.take j) f p = x := ⟨_, rfl⟩
      rw [hns] at hown
      have HN := Lib.hid (show Pl.nms l f p = ns by rw [← hns, List.take_of_length_le (by rw [HC.out.2.2.2.2.1]; exact Nat.le_refl _)])
      clear hns
      obtain ⟨An, cn, rfl⟩ := own_form hown
      have hof5 := own_off hown (B := w.heap.size + 1) (by have := hq.siz; omega)
      obtain ⟨x0, x1, r0, r1, xf, rf⟩ := hqr.cells
      obtain ⟨k, hk⟩ : ∃ k, ns.length = k := ⟨_, rfl⟩
      have HK := Lib.hid hk
      rw [hk] at hown ⊢
      clear hk
      go_wp2_with fail
      refine bodyPost_ret (v := .tuple #[.agg #[.slice A1 j c1, .slice A3 t c3], .slice An k cn, .int .i64 0]) (by simp [results, Tryz.results53, go_sem, r0, r1]) rfl ?_
      obtain ⟨g1, g2, g3⟩ := hqr.ret
      refine ⟨_, rfl, ⟨A1, c1, A3, c3, An, cn, ?_, ?_, ?_, ?_⟩, g3⟩
      · rw [HR.out, HC.out.2.2.2.2.1, HT.out]; show _ = Value.tuple #[_, .slice _ (Pl.nms l f p).length _, _]; rw [HN.out, HK.out]; rfl
      · rw [HC.out.2.2.2.2.1]; exact g1
      · rw [HT.out]; exact g2
      · rw [HR.out]; show SlAt _ 1 _ (Pl.nms l f p).length _ (strs (Pl.nms l f p)); rw [HN.out, HK.out]; exact ((own_sl hown).set hof5 _ _).set hof5 _ _
end Go.Proofs.YtdnebgilkfafhaaGreatDoor
