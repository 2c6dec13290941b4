/-
  THE WALK over law12.CropFamilies.
-/
import Derived.Test.YtcghhagnibabeaaGreatDoorK23
import Derived.Test.YtcghhagnibabeaaGreatDoorK25
import Derived.Test.YtcghhagnibabeaaGreatDoorHi
import Derived.Test.YtcghhagnibabeaaGreatDoorK27
namespace Go.Proofs.YtcghhagnibabeaaGreatDoor
open Go.RowKit Cr

theorem find_selfN {L : List Crp} (h : Right L) {k : Nat} (hk : k < L.length) : find L L[k].nm = (k : Int) := by
  refine find_at hk (fun j hj hjk => ?_) (by simp)
  cases e : (L[j].nm.toList == L[k].nm.toList) with
  | false => rfl
  | true =>
    have e2 : L[j].nm = L[k].nm := ba_ext (by rw [← ByteArray.toList_eq, ← ByteArray.toList_eq]; simpa using e)
    have := h.inj hj hk e2
    omega

theorem zbit0 : ∀ m, m < 32 → (bits .and .i64 (((m : Nat) : Int)) 1 == 0) = (m / 2 ^ 0 % 2 == 0) := by decide +kernel
theorem zbit1 : ∀ m, m < 32 → (bits .and .i64 ((((m : Nat) : Int) / 2)) 1 == 0) = (m / 2 ^ 1 % 2 == 0) := by decide +kernel
theorem zbit2 : ∀ m, m < 32 → (bits .and .i64 ((((m : Nat) : Int) / 4)) 1 == 0) = (m / 2 ^ 2 % 2 == 0) := by decide +kernel
theorem zbit3 : ∀ m, m < 32 → (bits .and .i64 ((((m : Nat) : Int) / 8)) 1 == 0) = (m / 2 ^ 3 % 2 == 0) := by decide +kernel
theorem zbit4 : ∀ m, m < 32 → (bits .and .i64 ((((m : Nat) : Int) / 16)) 1 == 0) = (m / 2 ^ 4 % 2 == 0) := by decide +kernel

/-- 'make([]int, n)': n zeroes in a new block. -/
theorem make_ints12 (n : Nat) (hn : n ≤ 35184372088832) (w : World) :
    (Instr.makeSlice 22 (.int .i64 (n : Int)) (.int .i64 (n : Int))).run Tryz.prog w = .ok (.slice (some ⟨w.heap.size, 0, none⟩) n n) (w.alloc (.cells (madeCells #[.int .i64 0] n) 3)) := by
  obtain ⟨i0, hi, hz0, hz1, hz2⟩ := info_parts info_int12
  have hr := run_make (P := Tryz.prog) w 22 3 i0 (.int .i64 0) Tryz.underlying22 hi hz0 .i64 .i64 n n (by omega) (Int.le_refl _) (by rw [hz2]; omega) (by omega)
  simp only [Int.toNat_natCast, hz1, Nat.mul_one] at hr
  exact hr

theorem Ints.aside {w : World} {p : Option Addr} {zs : List Int} {b i : Nat} {u : Value} (h : Ints w p zs) (hn : ∀ a, p = some a → a.block ≠ b) : Ints (w.setCell ⟨b, i, none⟩ u) p zs := by
  refine ⟨h.1, ?_⟩
  rcases h.2 with e | ⟨g, o, e, hl, hc⟩
  · exact .inl e
  · refine .inr ⟨g, o, e, by rw [setCell_size]; exact hl, fun j hj => ?_⟩
    rw [World.cell?_setCell_other _ _ _ _ (fun e2 => hn _ e (congrArg Addr.block e2).symm)]
    exact hc j hj

/-- While the families are gone through: the counters lie in block b. -/
structure FSt (w wr : World) (b n : Nat) (L : List Crp) (f : Int) (j : Nat) : Prop where
  row : Row wr b n fun i => .int .i64 (seenF L f j i)
  below : Below w.heap.size w wr

theorem FSt.drop {w wr w' : World} {b n : Nat} {L : List Crp} {f : Int} {j : Nat} (h : FSt w wr b n L f j) (hb : Below wr.heap.size wr w') : FSt w w' b n L f j :=
  ⟨h.row.below hb, bstep (Nat.le_refl _) h.below hb⟩

theorem FSt.set {w wr : World} {b n : Nat} {L : List Crp} {f : Int} {j : Nat} (h : FSt w wr b n L f j) (hL : L.length = n) (hb : w.heap.size ≤ b) (hj : j < (kinTo L f L.length).length) {x : Nat} (hx : (kinTo L f L.length)[j] = (x : Int)) :
    FSt w (wr.setCell ⟨b, x, none⟩ (.int .i64 1)) b n L f (j + 1) := by
  obtain ⟨-, h2, -, h4⟩ := seenF_next hj hx
  refine ⟨(h.row.set (by omega) (.int .i64 1)).congr fun i hi => ?_, h.below.setCell hb _⟩
  rw [h4 i (by omega)]
  split <;> rfl

set_option maxRecDepth 100000 in
set_option maxHeartbeats 16000000 in
theorem cropFamilies_walk (a : Option Addr) (len cap : Nat) (z : List Int) (w : World) (h : IsRow .i64 w a len cap z) (hE : Env w) :
    Calls Tryz.prog 3 #[.slice a len cap] w (YesC w) := by
  have HN := Lib.hid (new_any a len cap z w h)
  have HE := Lib.hid hE
  clear h hE
  obtain ⟨l, el⟩ : ∃ l, (z.take len).take 400 = l := ⟨_, rfl⟩
  rw [el] at HN
  clear el
  go_enter Tryz.func3, Tryz.ntmps3
  go_wp2_with (first
    | (go_at_call 8; refine Calls.mono HN.out ?_; rintro e w1 ⟨rfl, ht1, hb1⟩)
    | fail)
  (with_reducible refine Calls.mono (crops_any w.heap.size l 0 w1 ht1) ?_)
  rintro e w2 ⟨p, n, c, L, q, rfl, hO, hN, hn3, hn8, -, hB2⟩
  have hb2 := hb1.trans (hB2.below (Nat.le_refl _) hb1.size)
  have hR := hN.right hn8
  have hLn := hN.len
  obtain ⟨p', c', e, -, hpx, hcl, hcm, hRec⟩ := hO.cut hLn
  cases e
  have HR := Lib.hid hR
  have HC2 := Lib.hid hRec
  have HB2 := Lib.hid hb2
  have HNZ := Lib.hid (nice_small hN)
  have HFM := Lib.hid (fun (c : Crp) (hc : c ∈ L) => hN.fam c hc)
  have HLN := Lib.hid hLn
  have HCK := Lib.hid ((chk_right L).2 hR)
  have hmk := make_ints12 n (by omega) w2
  clear ht1 hb1 hO hN hB2 hR hpx hcm hRec HN hb2 hLn
  go_wp2
  clear hmk
  obtain ⟨wz, ewz⟩ : ∃ wz : World, w2.alloc (.cells (madeCells #[.int .i64 0] n) 3) = wz := ⟨_, rfl⟩
  have ST := Lib.hid (show FSt w2 wz w2.heap.size n L 0 0 from ewz ▸ ⟨(Row.made w2 n 3 (.int .i64 0)).congr fun i hi => by rw [seenF_zero (fun c hc => (HFM.out c hc).1) i (by rw [HLN.out]; exact hi)], (Below.refl _ _).alloc (Nat.le_refl _) _⟩)
  rw [ewz]
  clear ewz
  go_loopw [5] (fun f wr => ∃ k : Nat, k ≤ 41 ∧ f = .int .i64 k ∧ FSt w2 wr w2.heap.size n L (k : Int) 0) (fun f _ => 41 - (intOf f).toNat)
  case atStart => exact ⟨0, Nat.zero_le _, rfl, ST.out⟩
  case round =>
    clear ST
    obtain ⟨wo, rfl⟩ : ∃ wo : World, wo = wr := ⟨_, rfl⟩
    obtain ⟨k, hk, rfl, hF⟩ := hrel
    have HF := Lib.hid hF
    have hk0 : (0 : Int) ≤ (k : Int) := Int.natCast_nonneg _
    have HRC := Lib.hid (HC2.out.below hF.below)
    by_cases hlt : k ≤ 40
    · have hk1 : (k : Int) ≤ 40 := by omega
      have hE0 : kinE L (k : Int) = 0 := by unfold kinE; rw [if_neg (fun h => h HCK.out), if_neg (by omega)]
      have KN := Lib.hid (show Calls Tryz.prog 10 #[.slice p n c, .int .i64 (k : Int)] wo (KinNew L (k : Int) wo) from HLN.out ▸ kinNew_any p L c (k : Int) wo HRC.out (fun x hx => by have := HNZ.out x hx; omega))
      unfold KinNew at KN
      rw [hE0, show kinL L (k : Int) = kinTo L (k : Int) L.length by unfold kinL; rw [if_pos hE0]] at KN
      obtain ⟨K, eK⟩ : ∃ K, kinTo L (k : Int) L.length = K := ⟨_, rfl⟩
      rw [eK] at KN
      have HK := Lib.hid eK
      clear hF hE0 eK
      go_wp2_with fail
      (with_reducible refine Calls.mono KN.out ?_)
      rintro e w3 ⟨pk, ck, rfl, hI, hge, hb3⟩
      have HI := Lib.hid hI
      have HF3 := Lib.hid (HF.out.drop hb3)
      have hKl := hI.len
      have HGE := Lib.hid (fun (x : Addr) (e : pk = some x) => show w2.heap.size < x.block from Nat.lt_of_lt_of_le HF.out.row.1 (hge x e))
      clear KN hI hb3 hge
      go_wp2
      go_loopw [36] (fun i wr => ∃ j : Nat, j ≤ K.length ∧ i = .int .i64 j ∧ FSt w2 wr w2.heap.size n L (k : Int) j ∧ Ints wr pk K) (fun i _ => K.length - (intOf i).toNat)
      case atStart => exact ⟨0, Nat.zero_le _, rfl, HF3.out, HI.out⟩
      case round =>
        obtain ⟨wi, rfl⟩ : ∃ wi : World, wi = wr := ⟨_, rfl⟩
        obtain ⟨j, hj, rfl, hFj, hIj⟩ := hrel
        have HFj := Lib.hid hFj
        have HIj := Lib.hid hIj
        have hj0 : (0 : Int) ≤ (j : Int) := Int.natCast_nonneg _
        by_cases hjl : j < K.length
        · have hj1 : (j : Int) < (K.length : Int) := by omega
          have hjK : j < (kinTo L (k : Int) L.length).length := by rw [HK.out]; exact hjl
          obtain ⟨x, hxn, hxe, hxf⟩ := kinTo_mem.1 (List.getElem_mem hjK)
          obtain ⟨s1, s2, s3, s4⟩ := seenF_next hjK hxe
          have HST := Lib.hid (hFj.set HLN.out (Nat.le_refl _) hjK hxe)
          obtain ⟨gb, go, y, rfl, hgl, hgc, hgy⟩ := hIj.get hjl
          have hyx : y = (x : Int) := by
            have e1 : K[j] = (x : Int) := by
              have := hxe
              simp only [HK.out] at this
              exact this
            rw [← e1]
            have h2 := hgy.out
            rw [List.getD_eq_getElem?_getD, List.getElem?_eq_getElem hjl] at h2
            exact h2.symm
          subst hyx
          have hxn2 : x < n := by rw [← HLN.out]; exact hxn
          have hx0 : (0 : Int) ≤ (x : Int) := Int.natCast_nonneg _
          have hx1 : (x : Int) < (n : Int) := by omega
          obtain ⟨hs0, hs1⟩ := hFj.row.2 x hxn2
          have hs2 : wi.cell? ⟨w2.heap.size, x, none⟩ = some (.int .i64 0) := hs0.trans (by show some (Value.int .i64 (seenF L (k : Int) j x)) = _; rw [s3])
          clear hs0
          obtain ⟨bb, o, cc, rfl, hbl, ⟨-, c1, -⟩, hcc⟩ := SC_at (HC2.out.below hFj.below) hxn
          have hfam : cc.fam = (k : Int) := by rw [← s1, famAt_at hxn hcc.out]
          rw [hfam] at c1
          have HI2 := Lib.hid (show Ints (wi.setCell ⟨w2.heap.size, x, none⟩ (.int .i64 1)) (some ⟨gb, go, none⟩) K from hIj.aside (fun a e => by cases e; exact Nat.ne_of_gt (HGE.out _ rfl)))
          clear hFj hIj s1 s2 s3 s4 hgy hxe hxf hcc hfam hjK hbl hgl
          go_wp2
          go_roundw
          case rel => exact ⟨j + 1, by omega, by go_num, HST.out, HI2.out⟩
          case measure => simp [intOf]; omega
        · obtain rfl : j = K.length := by omega
          have HN := Lib.hid (show FSt w2 wi w2.heap.size n L ((k + 1 : Nat) : Int) 0 from ⟨hFj.row.congr fun i hi => by
            have := seenF_end L (k : Int) i (by rw [HLN.out]; exact hi)
            rw [HK.out] at this
            rw [this]
            rfl, hFj.below⟩)
          clear hFj hIj
          go_wp2
          go_roundw
          case rel => exact ⟨k + 1, by omega, by go_num, HN.out⟩
          case measure => simp [intOf]; omega
    · obtain rfl : k = 41 := by omega
      rw [show ((41 : Nat) : Int) = 41 from rfl] at HF ⊢
      clear hF
      go_wp2
      -- MARKS
      have HSN := Lib.hid (HF.out.row.congr fun i hi => by rw [show (41 : Int) = 41 from rfl, seenF_all (fun c hc => by have := (HFM.out c hc).2; omega) i (by rw [HLN.out]; exact hi)])
      have HBO := Lib.hid HF.out.below
      go_loopw [66] (fun i wr => ∃ k : Nat, k ≤ n ∧ i = .int .i64 k ∧ Below wo.heap.size wo wr) (fun i _ => n - (intOf i).toNat)
      case atStart => exact ⟨0, Nat.zero_le _, rfl, Below.refl _ _⟩
      case round =>
        obtain ⟨wi, rfl⟩ : ∃ wi : World, wi = wr := ⟨_, rfl⟩
        obtain ⟨k, hk, rfl, hbi⟩ := hrel
        have HBI := Lib.hid hbi
        have hk0 : (0 : Int) ≤ (k : Int) := Int.natCast_nonneg _
        by_cases hlt : k < n
        · have hk1 : (k : Int) < (n : Int) := by omega
          have hkL : k < L.length := by rw [HLN.out]; exact hlt
          have HCI := Lib.hid (HRC.out.below hbi)
          have hs0 := ((HSN.out.below hbi).2 k hlt).1
          have hsl := (HSN.out.below hbi).1
          obtain ⟨bb, o, cc, rfl, hbl, ⟨c0, c1, -⟩, hcc⟩ := SC_at HCI.out hkL
          have hfam : famAt L (k : Int) = cc.fam := famAt_at hkL hcc.out
          have hmrk : mrkAt L (k : Int) = cc.mrk := mrkAt_at hkL hcc.out
          obtain ⟨-, -, -, o4, o5⟩ := one_ok (c := cc) (by rw [← hcc.out]; exact HR.out.each _ (List.getElem_mem hkL))
          have hfi : find L cc.nm = (k : Int) := by rw [← hcc.out]; exact find_selfN HR.out hkL
          obtain ⟨nm, fam, mrk⟩ := cc
          simp only at c0 c1 hfam hmrk o4 o5 hfi
          obtain ⟨a0, rfl⟩ : ∃ m : Nat, mrk = (m : Int) := Int.eq_ofNat_of_zero_le o4
          have ha0 : a0 < 32 := by omega
          have hE0 : famE L (k : Int) = 0 := by unfold famE; rw [if_neg (fun h => h HCK.out), if_neg (by rw [HLN.out]; omega)]
          have FM := Lib.hid (show Calls Tryz.prog 11 #[.slice (some ⟨bb, o, none⟩) n c, .int .i64 (k : Int)] wi (fun e w' => e = .returned (.tuple #[.int .i64 fam, .int .i64 0]) ∧ Below wi.heap.size wi w') from by
            have := family_any (some ⟨bb, o, none⟩) L c (k : Int) wi HCI.out (fun x hx => by have := HNZ.out x hx; omega)
            unfold FamGive at this
            rw [hE0, show famV L (k : Int) = fam by unfold famV; rw [if_pos hE0, hfam], HLN.out] at this
            exact this)
          have FD := Lib.hid (fun (W : World) (h : Below wi.heap.size wi W) => show Calls Tryz.prog 12 #[.slice (some ⟨bb, o, none⟩) n c, .string nm] W (fun e w' => e = .returned (.int .i64 (k : Int)) ∧ Below W.heap.size W w') from by
            have := find_any (some ⟨bb, o, none⟩) L c nm W (HCI.out.below h)
            unfold IntGive at this
            rw [hfi, HLN.out] at this
            exact this)
          have HAS := Lib.hid (fun (W : World) (h : Below wi.heap.size wi W) (m : Nat) (hm0 : m ≠ 0) (hm : m < 32) (v : Bool) (hv : (bits .and .i64 (a0 : Int) (m : Int) == (m : Int)) = v) => show Calls Tryz.prog 13 #[.slice (some ⟨bb, o, none⟩) n c, .int .i64 (k : Int), .int .i64 (m : Int)] W (fun e w' => e = .returned (.bool v) ∧ W = w') from by
            have := (has_both (some ⟨bb, o, none⟩) L c (k : Int) (m : Int) W (HCI.out.below h)).1
            unfold HasGive at this
            rw [show hasB L (k : Int) (m : Int) = v by unfold hasB; rw [if_pos ⟨by omega, by rw [HLN.out]; omega, by omega⟩, hmrk, hv], HLN.out] at this
            exact this)
          clear hbi hfam hmrk o4 o5 hfi hE0 hcc
          go_wp2_with (first
            | (go_at_call 11; (with_reducible refine Calls.mono FM.out ?_); rintro e w3 ⟨rfl, hb3⟩; have c0' := (hb3.cell (p := ⟨bb, o + k * 3, none⟩) hbl).trans c0; have c1' := (hb3.cell (p := ⟨bb, o + k * 3 + 1, none⟩) hbl).trans c1; have hs1 := (hb3.cell (p := ⟨w2.heap.size, k, none⟩) hsl).trans hs0)
            | (go_at_call 12; (with_reducible refine Calls.mono (FD.out _ hb3) ?_); rintro e w4 ⟨rfl, hb4⟩)
            | fail)
          have HB4 := Lib.hid (bstep (Nat.le_refl _) hb3 hb4)
          clear c0 c1 c0' c1' hs0 hs1 hb3 hb4 FM FD hbl hsl
          go_loopw [13] (fun m wr => ∃ j : Nat, 1 ≤ j ∧ j ≤ 32 ∧ m = .int .i64 j ∧ Below wi.heap.size wi wr) (fun m _ => 32 - (intOf m).toNat)
          case atStart => exact ⟨1, Nat.le_refl _, by omega, rfl, HB4.out⟩
          case round =>
            obtain ⟨wj, rfl⟩ : ∃ wj : World, wj = wr := ⟨_, rfl⟩
            obtain ⟨m, hm1, hm2, rfl, hbj⟩ := hrel
            have HBJ := Lib.hid hbj
            clear hbj
            by_cases hm : m < 32
            · have hm3 : (m : Int) < 32 := by omega
              have hm4 : (0 : Int) ≤ (m : Int) := Int.natCast_nonneg _
              have HAM := Lib.hid (HAS.out wj HBJ.out m (by omega) hm _ (allM_has a0 ha0 m hm))
              have HB2 := Lib.hid (fun (q : Nat) (hq : q < 5) (hq2 : 2 ^ q < 32) => HAS.out wj HBJ.out (2 ^ q) (by have := Nat.two_pow_pos q; omega) hq2 _ (has_bit a0 ha0 q hq))
              go_wp2
              go_loop [14, 15] (fun v q => ∃ t : Nat, t ≤ 5 ∧ q = .int .i64 t ∧ v = .bool (allM a0 m t)) (fun _ q => 5 - (intOf q).toNat)
              case atStart => exact ⟨0, Nat.zero_le _, rfl, rfl⟩
              case round =>
                obtain ⟨t, ht, rfl, rfl⟩ := hrel
                match t, ht with
                | 0, _ =>
                  rw [show ((0 : Nat) : Int) = 0 from rfl]
                  have hz := zbit0 m hm
                  have HNX := Lib.hid (show allM a0 m 1 = (allM a0 m 0 && (m / 2 ^ 0 % 2 == 0 || a0 / 2 ^ 0 % 2 == 1)) from rfl)
                  have HH := Lib.hid (show Calls Tryz.prog 13 #[.slice (some ⟨bb, o, none⟩) n c, .int .i64 (k : Int), .int .i64 1] wj (fun e w' => e = .returned (.bool (a0 / 2 ^ 0 % 2 == 1)) ∧ wj = w') from HB2.out 0 (by omega) (by decide))
                  obtain ⟨v, ev⟩ : ∃ v, allM a0 m 0 = v := ⟨_, rfl⟩
                  obtain ⟨z, ez⟩ : ∃ z, (m / 2 ^ 0 % 2 == 0) = z := ⟨_, rfl⟩
                  obtain ⟨y, ey⟩ : ∃ y, (a0 / 2 ^ 0 % 2 == 1) = y := ⟨_, rfl⟩
                  rw [ev, ez, ey] at HNX
                  rw [ez] at hz
                  rw [ey] at HH
                  rw [ev]
                  clear ev ez ey HAM HB2
                  cases v with
                  | false =>
                    go_wp2
                    go_round
                    case rel => exact ⟨1, by omega, rfl, by rw [HNX.out]; rfl⟩
                    case measure => simp [intOf]
                  | true =>
                    cases z with
                    | true =>
                      go_wp2
                      go_round
                      case rel => exact ⟨1, by omega, rfl, by rw [HNX.out]; rfl⟩
                      case measure => simp [intOf]
                    | false =>
                      go_wp2_with (first | (go_at_call 13; (with_reducible refine Calls.mono HH.out ?_); rintro e w5 ⟨rfl, rfl⟩) | fail)
                      go_round
                      case rel => exact ⟨1, by omega, rfl, by rw [HNX.out]; rfl⟩
                      case measure => simp [intOf]
                | 1, _ =>
                  rw [show ((1 : Nat) : Int) = 1 from rfl]
                  have hz := zbit1 m hm
                  have HNX := Lib.hid (show allM a0 m 2 = (allM a0 m 1 && (m / 2 ^ 1 % 2 == 0 || a0 / 2 ^ 1 % 2 == 1)) from rfl)
                  have HH := Lib.hid (show Calls Tryz.prog 13 #[.slice (some ⟨bb, o, none⟩) n c, .int .i64 (k : Int), .int .i64 2] wj (fun e w' => e = .returned (.bool (a0 / 2 ^ 1 % 2 == 1)) ∧ wj = w') from HB2.out 1 (by omega) (by decide))
                  obtain ⟨v, ev⟩ : ∃ v, allM a0 m 1 = v := ⟨_, rfl⟩
                  obtain ⟨z, ez⟩ : ∃ z, (m / 2 ^ 1 % 2 == 0) = z := ⟨_, rfl⟩
                  obtain ⟨y, ey⟩ : ∃ y, (a0 / 2 ^ 1 % 2 == 1) = y := ⟨_, rfl⟩
                  rw [ev, ez, ey] at HNX
                  rw [ez] at hz
                  rw [ey] at HH
                  rw [ev]
                  clear ev ez ey HAM HB2
                  cases v with
                  | false =>
                    go_wp2
                    go_round
                    case rel => exact ⟨2, by omega, rfl, by rw [HNX.out]; rfl⟩
                    case measure => simp [intOf]
                  | true =>
                    cases z with
                    | true =>
                      go_wp2
                      go_round
                      case rel => exact ⟨2, by omega, rfl, by rw [HNX.out]; rfl⟩
                      case measure => simp [intOf]
                    | false =>
                      go_wp2_with (first | (go_at_call 13; (with_reducible refine Calls.mono HH.out ?_); rintro e w5 ⟨rfl, rfl⟩) | fail)
                      go_round
                      case rel => exact ⟨2, by omega, rfl, by rw [HNX.out]; rfl⟩
                      case measure => simp [intOf]
                | 2, _ =>
                  rw [show ((2 : Nat) : Int) = 2 from rfl]
                  have hz := zbit2 m hm
                  have HNX := Lib.hid (show allM a0 m 3 = (allM a0 m 2 && (m / 2 ^ 2 % 2 == 0 || a0 / 2 ^ 2 % 2 == 1)) from rfl)
                  have HH := Lib.hid (show Calls Tryz.prog 13 #[.slice (some ⟨bb, o, none⟩) n c, .int .i64 (k : Int), .int .i64 4] wj (fun e w' => e = .returned (.bool (a0 / 2 ^ 2 % 2 == 1)) ∧ wj = w') from HB2.out 2 (by omega) (by decide))
                  obtain ⟨v, ev⟩ : ∃ v, allM a0 m 2 = v := ⟨_, rfl⟩
                  obtain ⟨z, ez⟩ : ∃ z, (m / 2 ^ 2 % 2 == 0) = z := ⟨_, rfl⟩
                  obtain ⟨y, ey⟩ : ∃ y, (a0 / 2 ^ 2 % 2 == 1) = y := ⟨_, rfl⟩
                  rw [ev, ez, ey] at HNX
                  rw [ez] at hz
                  rw [ey] at HH
                  rw [ev]
                  clear ev ez ey HAM HB2
                  cases v with
                  | false =>
                    go_wp2
                    go_round
                    case rel => exact ⟨3, by omega, rfl, by rw [HNX.out]; rfl⟩
                    case measure => simp [intOf]
                  | true =>
                    cases z with
                    | true =>
                      go_wp2
                      go_round
                      case rel => exact ⟨3, by omega, rfl, by rw [HNX.out]; rfl⟩
                      case measure => simp [intOf]
                    | false =>
                      go_wp2_with (first | (go_at_call 13; (with_reducible refine Calls.mono HH.out ?_); rintro e w5 ⟨rfl, rfl⟩) | fail)
                      go_round
                      case rel => exact ⟨3, by omega, rfl, by rw [HNX.out]; rfl⟩
                      case measure => simp [intOf]
                | 3, _ =>
                  rw [show ((3 : Nat) : Int) = 3 from rfl]
                  have hz := zbit3 m hm
                  have HNX := Lib.hid (show allM a0 m 4 = (allM a0 m 3 && (m / 2 ^ 3 % 2 == 0 || a0 / 2 ^ 3 % 2 == 1)) from rfl)
                  have HH := Lib.hid (show Calls Tryz.prog 13 #[.slice (some ⟨bb, o, none⟩) n c, .int .i64 (k : Int), .int .i64 8] wj (fun e w' => e = .returned (.bool (a0 / 2 ^ 3 % 2 == 1)) ∧ wj = w') from HB2.out 3 (by omega) (by decide))
                  obtain ⟨v, ev⟩ : ∃ v, allM a0 m 3 = v := ⟨_, rfl⟩
                  obtain ⟨z, ez⟩ : ∃ z, (m / 2 ^ 3 % 2 == 0) = z := ⟨_, rfl⟩
                  obtain ⟨y, ey⟩ : ∃ y, (a0 / 2 ^ 3 % 2 == 1) = y := ⟨_, rfl⟩
                  rw [ev, ez, ey] at HNX
                  rw [ez] at hz
                  rw [ey] at HH
                  rw [ev]
                  clear ev ez ey HAM HB2
                  cases v with
                  | false =>
                    go_wp2
                    go_round
                    case rel => exact ⟨4, by omega, rfl, by rw [HNX.out]; rfl⟩
                    case measure => simp [intOf]
                  | true =>
                    cases z with
                    | true =>
                      go_wp2
                      go_round
                      case rel => exact ⟨4, by omega, rfl, by rw [HNX.out]; rfl⟩
                      case measure => simp [intOf]
                    | false =>
                      go_wp2_with (first | (go_at_call 13; (with_reducible refine Calls.mono HH.out ?_); rintro e w5 ⟨rfl, rfl⟩) | fail)
                      go_round
                      case rel => exact ⟨4, by omega, rfl, by rw [HNX.out]; rfl⟩
                      case measure => simp [intOf]
                | 4, _ =>
                  rw [show ((4 : Nat) : Int) = 4 from rfl]
                  have hz := zbit4 m hm
                  have HNX := Lib.hid (show allM a0 m 5 = (allM a0 m 4 && (m / 2 ^ 4 % 2 == 0 || a0 / 2 ^ 4 % 2 == 1)) from rfl)
                  have HH := Lib.hid (show Calls Tryz.prog 13 #[.slice (some ⟨bb, o, none⟩) n c, .int .i64 (k : Int), .int .i64 16] wj (fun e w' => e = .returned (.bool (a0 / 2 ^ 4 % 2 == 1)) ∧ wj = w') from HB2.out 4 (by omega) (by decide))
                  obtain ⟨v, ev⟩ : ∃ v, allM a0 m 4 = v := ⟨_, rfl⟩
                  obtain ⟨z, ez⟩ : ∃ z, (m / 2 ^ 4 % 2 == 0) = z := ⟨_, rfl⟩
                  obtain ⟨y, ey⟩ : ∃ y, (a0 / 2 ^ 4 % 2 == 1) = y := ⟨_, rfl⟩
                  rw [ev, ez, ey] at HNX
                  rw [ez] at hz
                  rw [ey] at HH
                  rw [ev]
                  clear ev ez ey HAM HB2
                  cases v with
                  | false =>
                    go_wp2
                    go_round
                    case rel => exact ⟨5, by omega, rfl, by rw [HNX.out]; rfl⟩
                    case measure => simp [intOf]
                  | true =>
                    cases z with
                    | true =>
                      go_wp2
                      go_round
                      case rel => exact ⟨5, by omega, rfl, by rw [HNX.out]; rfl⟩
                      case measure => simp [intOf]
                    | false =>
                      go_wp2_with (first | (go_at_call 13; (with_reducible refine Calls.mono HH.out ?_); rintro e w5 ⟨rfl, rfl⟩) | fail)
                      go_round
                      case rel => exact ⟨5, by omega, rfl, by rw [HNX.out]; rfl⟩
                      case measure => simp [intOf]
                | 5, _ =>
                  obtain ⟨v, ev⟩ : ∃ v, allM a0 m 5 = v := ⟨_, rfl⟩
                  rw [ev] at HAM ⊢
                  rw [show ((5 : Nat) : Int) = 5 from rfl]
                  clear ev
                  go_wp2_with (first | (go_at_call 13; (with_reducible refine Calls.mono HAM.out ?_); rintro e w5 ⟨rfl, rfl⟩) | fail)
                  go_roundw
                  case rel => exact ⟨m + 1, by omega, by omega, by go_num, HBJ.out⟩
                  case measure => simp [intOf]; omega
            · obtain rfl : m = 32 := by omega
              rw [show ((32 : Nat) : Int) = 32 from rfl]
              go_wp2
              go_roundw
              case rel => exact ⟨k + 1, by omega, by go_num, bstep (Nat.le_refl _) HBI.out HBJ.out⟩
              case measure => simp [intOf]; omega
        · obtain rfl : k = n := by omega
          have AW := Lib.hid (awake12_any wi (HE.out.below (bstep (Nat.le_refl _) (bstep (Nat.le_refl _) HB2.out HBO.out) hbi)))
          clear hbi
          go_wp2_with (first | (go_at_call 14; (with_reducible refine Calls.mono AW.out ?_); rintro e w7 ⟨rfl, hb7⟩) | fail)
          go_ret
          exact ⟨rfl, bstep (Nat.le_refl _) (bstep (Nat.le_refl _) (bstep (Nat.le_refl _) HB2.out HBO.out) HBI.out) hb7⟩
end Go.Proofs.YtcghhagnibabeaaGreatDoor
