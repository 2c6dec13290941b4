/-
  THE WALK over WordsBack.
-/
import Derived.Test.YtndikbpmhlhgfaaDoorN6
namespace Go.Proofs.YtndikbpmhlhgfaaDoor
open Go.RowKit

theorem WB.size {w wr : World} {l : List Int} {v : Value} {x : ByteArray} {ML : List (List UInt8)} {LL : List (List ByteArray)} {H : List Hd} {q : Nat} (h : WB w wr l v x ML LL H q) (h5 : LL.length ≤ 5) : ML.length ≤ 5 ∧ x.size ≤ 1000 ∧ (Wo.jText (lb LL)).length ≤ 1000 ∧ ∀ ws ∈ LL, ws.length ≤ 1000 := by
  have e : ML.length = LL.length := by
    have := congrArg List.length h.mess.rd
    rw [List.length_map, lb_len] at this
    exact this
  have h1 := Wo.mess_len ML h.mess.len
  rw [← h.txt, size_len] at h1
  have h2 := Wo.jText_len (lb LL) h.mess.good
  rw [lb_len] at h2
  refine ⟨by omega, by omega, by omega, fun ws hw => ?_⟩
  have := (h.mess.good (ws.map (·.data.toList)) (List.mem_map.2 ⟨ws, hw, rfl⟩)).2
  rw [List.length_map] at this
  omega

set_option maxRecDepth 100000 in
set_option maxHeartbeats 16000000 in
theorem wordsBack_walk (a : Option Addr) (len cap : Nat) (z : List Int) (w : World) (h : IsRow .i64 w a len cap z) (hE : Env w) :
    Calls Tryd.prog 5 #[.slice a len cap] w (YesB w) := by
  have HN := Lib.hid (new_any a len cap z w h)
  have HE := Lib.hid hE
  clear h hE
  obtain ⟨l, el⟩ : ∃ l, (z.take len).take 400 = l := ⟨_, rfl⟩
  rw [el] at HN
  clear el
  obtain ⟨gn, en⟩ : ∃ g, gives l 0 6 = g := ⟨_, rfl⟩
  obtain ⟨n1, n2⟩ := gives_bd l 0 (n := 6) (by omega)
  rw [en] at n1 n2
  obtain ⟨N, rfl⟩ : ∃ N : Nat, gn = (N : Int) := Int.eq_ofNat_of_zero_le n1
  obtain ⟨qa, ea⟩ : ∃ g, taken l 0 = g := ⟨_, rfl⟩
  have T0 := Lib.hid (fun (W : World) (h : TapeAt W w.heap.size l 0) => ea ▸ en ▸ next_any w.heap.size l 0 6 W h (by omega))
  clear ea en n1
  go_enter Tryd.func5, Tryd.ntmps5
  go_wp2_with (first
    | (go_at_call 8; refine Calls.mono HN.out ?_; rintro e w1 ⟨rfl, ht1, hb1⟩)
    | (go_at_call 10; refine Calls.mono (T0.out _ ht1) ?_; rintro e w2 ⟨rfl, ht2, hb2⟩))
  have ST := Lib.hid (show WB w w2 l (.slice none 0 0) ⟨#[]⟩ [] [] [] qa from ⟨Wo.Mess.nil, rfl, OwnR.nil _ _ _, rfl, fun k hk => by simp at hk, fun k hk => by simp at hk, ht2, hb1.trans (hb2.below (Nat.le_refl _) hb1.size)⟩)
  clear ht1 hb1 ht2 hb2 HN T0
  go_loopw [4, 5, 6] (fun v x n wr => ∃ (k : Nat) (xs : ByteArray) (ML : List (List UInt8)) (LL : List (List ByteArray)) (H : List Hd) (q : Nat), k ≤ N ∧ LL.length = k ∧ n = .int .i64 ((N : Int) - k) ∧ x = .string xs ∧ WB w wr l v xs ML LL H q) (fun _ _ n _ => (intOf n).toNat)
  case atStart => exact ⟨0, _, _, _, _, _, Nat.zero_le _, rfl, by simp, rfl, ST.out⟩
  case round =>
    clear ST
    obtain ⟨wo, rfl⟩ : ∃ wo : World, wo = wr := ⟨_, rfl⟩
    obtain ⟨k, xs, ML, LL, H, q, hk, hLL, rfl, rfl, hB⟩ := hrel
    have HL := Lib.hid hLL
    clear hLL
    by_cases hlt : k < N
    · have hk1 : (0 : Int) < (N : Int) - k := by omega
      obtain ⟨gk, ek⟩ : ∃ g, gives l q 4 = g := ⟨_, rfl⟩
      obtain ⟨k1, k2⟩ := gives_bd l q (n := 4) (by omega)
      rw [ek] at k1 k2
      obtain ⟨K, rfl⟩ : ∃ K : Nat, gk = (K : Int) := Int.eq_ofNat_of_zero_le k1
      obtain ⟨q1, e1⟩ : ∃ g, taken l q = g := ⟨_, rfl⟩
      have T1 := Lib.hid (fun (W : World) (h : TapeAt W w.heap.size l q) => e1 ▸ ek ▸ next_any w.heap.size l q 4 W h (by omega))
      have HB0 := Lib.hid hB
      clear e1 ek k1 hB
      go_wp2_with (first | (go_at_call 10; refine Calls.mono (T1.out _ HB0.out.tape) ?_; rintro e wa ⟨rfl, hta, hba⟩))
      have HB := Lib.hid (HB0.out.but hba hta)
      have HTA := Lib.hid hta
      have hla := hta.lt
      clear hba hta HB0 T1
      go_loopw [7, 8] (fun u c wi => ∃ (j : Nat) (ws : List ByteArray) (qi : Nat), j ≤ K ∧ c = .int .i64 ((K : Int) - j) ∧ ws.length = j ∧ (∀ y ∈ ws, y.data.toList ∈ Wo.fiveW) ∧ OwnR SB wi 9 wa.heap.size u ws ∧ But w.heap.size wa wi ∧ TapeAt wi w.heap.size l qi) (fun _ c _ => (intOf c).toNat)
      case atStart => exact ⟨0, [], q1, Nat.zero_le _, by simp, rfl, (fun y hy => by cases hy), OwnR.nil _ _ _, But.refl _ _, HTA.out⟩
      case round =>
        obtain ⟨wi, rfl⟩ : ∃ wi : World, wi = wr := ⟨_, rfl⟩
        obtain ⟨j, ws, qi, hj, rfl, hwl, hwf, hO, hb, ht⟩ := hrel
        have HWL := Lib.hid hwl
        have HWF := Lib.hid hwf
        have HO := Lib.hid hO
        have HBi := Lib.hid hb
        have HT := Lib.hid ht
        have hsi := hb.size
        clear hwl hwf hO hb ht
        by_cases hlt2 : j < K
        · have hj1 : (0 : Int) < (K : Int) - j := by omega
          obtain ⟨gm, em⟩ : ∃ g, gives l qi 5 = g := ⟨_, rfl⟩
          obtain ⟨m1, m2⟩ := gives_bd l qi (n := 5) (by omega)
          rw [em] at m1 m2
          obtain ⟨m, rfl⟩ : ∃ m : Nat, gm = (m : Int) := Int.eq_ofNat_of_zero_le m1
          obtain ⟨q2, e2⟩ : ∃ g, taken l qi = g := ⟨_, rfl⟩
          have T2 := Lib.hid (fun (W : World) (h : TapeAt W w.heap.size l qi) => e2 ▸ em ▸ next_any w.heap.size l qi 5 W h (by omega))
          obtain ⟨X, hX, hcX⟩ := five_lit wi m (by omega)
          have HX := Lib.hid hX
          have HCX := Lib.hid hcX
          have hwl2 : ws.length < 1073741824 := by rw [HWL.out]; omega
          have HA := Lib.hid (((Below.refl wi.heap.size wi).alloc (Nat.le_refl _) (.cells #[.string ⟨#[97]⟩, .string ⟨#[98, 55]⟩, .string ⟨#[45, 51]⟩, .string ⟨#[40]⟩, .string ⟨#[120, 46, 121]⟩] 9)))
          clear e2 em m1 hX hcX
          go_wp2_with fail
          (with_reducible refine Calls.mono (T2.out _ (HT.out.below HA.out)) ?_)
          rintro e w2 ⟨rfl, ht2, hb2⟩
          have hc := (hb2.cell (p := ⟨wi.heap.size, m, none⟩) (by simp) (by show wi.heap.size ≠ w.heap.size; omega)).trans HCX.out
          have HO2 := Lib.hid ((HO.out.below HA.out).but hb2 (by omega))
          have hs2 := hb2.size
          rw [World.size_alloc] at hs2
          have HB2 := Lib.hid ((HBi.out.nxt HA.out).trans hb2)
          have HT2 := Lib.hid ht2
          clear hb2 ht2
          have hwa2 : wa.heap.size ≤ w2.heap.size := by omega
          go_wp2_with (first | (at_builtin; (refine OwnR.append el_str rfl (.tmp 29) (.tmp 35) rfl wa.heap.size _ _ X #[.string X] rfl HO2.out rfl rfl hwa2 hwl2 (by decide) ?_); intro v5 w5 hO5 hap5))
          have HO5 := Lib.hid hO5
          have HAP := Lib.hid hap5
          clear hO5 hap5
          go_roundw
          case rel => exact ⟨j + 1, _, q2, by omega, by simp; omega, by rw [List.length_append, HWL.out]; rfl, fun y hy => by
            rcases List.mem_append.1 hy with hy | hy
            · exact HWF.out y hy
            · obtain rfl := List.mem_singleton.1 hy; exact HX.out, HO5.out, HB2.out.stp HAP.out.below, HT2.out.belowB HAP.out.below (by omega)⟩
          case measure => simp [intOf]; omega
        · obtain rfl : j = K := by omega
          obtain ⟨p, c, rfl, hpn, hpx, hle, hcm, hrec⟩ := HO.out.cut HWL.out
          have HRC := Lib.hid hrec
          have HWA := Lib.hid (show WordsAt wi ⟨p, j, c⟩ ws from ⟨HWL.out.symm, hrec, fun h => (hpn h).1, hle⟩)
          have HPX := Lib.hid (show ∀ x, p = some x → wa.heap.size ≤ x.block ∧ x.block < wi.heap.size from fun x e => by have := hpx x e; omega)
          have HLE := Lib.hid hle
          have HRo := Lib.hid (HB.out.own.but HBi.out (Nat.lt_succ_self _))
          have hHl : H.length < 1073741824 := by rw [HB.out.hl, HL.out]; omega
          have hBw : w.heap.size + 1 ≤ wi.heap.size := by omega
          clear hrec hpn hpx hcm hle HO
          -- the numbers drawn
          obtain ⟨ga, xa⟩ : ∃ g, gives l qi 3 = g := ⟨_, rfl⟩
          obtain ⟨a1, a2⟩ := gives_bd l qi (n := 3) (by omega)
          rw [xa] at a1 a2
          obtain ⟨q2, y2⟩ : ∃ g, taken l qi = g := ⟨_, rfl⟩
          obtain ⟨gb, xb⟩ : ∃ g, gives l q2 3 = g := ⟨_, rfl⟩
          obtain ⟨b1, b2⟩ := gives_bd l q2 (n := 3) (by omega)
          rw [xb] at b1 b2
          obtain ⟨q3, y3⟩ : ∃ g, taken l q2 = g := ⟨_, rfl⟩
          obtain ⟨gm, xm⟩ : ∃ g, gives l q3 4 = g := ⟨_, rfl⟩
          obtain ⟨m1, m2⟩ := gives_bd l q3 (n := 4) (by omega)
          rw [xm] at m1 m2
          obtain ⟨m, rfl⟩ : ∃ m : Nat, gm = (m : Int) := Int.eq_ofNat_of_zero_le m1
          obtain ⟨q4, y4⟩ : ∃ g, taken l q3 = g := ⟨_, rfl⟩
          have TA := Lib.hid (fun (W : World) (h : TapeAt W w.heap.size l qi) => y2 ▸ xa ▸ next_any w.heap.size l qi 3 W h (by omega))
          have TB := Lib.hid (fun (W : World) (h : TapeAt W w.heap.size l q2) => y3 ▸ xb ▸ next_any w.heap.size l q2 3 W h (by omega))
          have TM := Lib.hid (fun (W : World) (h : TapeAt W w.heap.size l q3) => y4 ▸ xm ▸ next_any w.heap.size l q3 4 W h (by omega))
          have RA := Lib.hid (fun (W : World) => rep_any 32 ga W a1 (by omega))
          have RB := Lib.hid (fun (W : World) => rep_any 32 (1 + gb) W (by omega) (by omega))
          clear xa xb xm y2 y3 y4 m1
          go_wp2_with (first | (at_builtin; (refine OwnR.append el_row rfl (.tmp 37) (.tmp 39) rfl (w.heap.size + 1) _ _ (⟨p, j, c⟩ : Hd) #[.slice p j c] rfl HRo.out rfl rfl hBw hHl (by decide) ?_); intro v6 w6 hO6 hap6))
          have HWR := Lib.hid (HB.out.row HBi.out HT.out HWA.out HPX.out (by omega) hO6 hap6)
          have hs6 := hap6.size
          have HR6 := Lib.hid (show Recs SB w6 p ws from (HRC.out.below (Below.refl _ _)).far hap6 (fun a e e2 => by have := (HPX.out a e).1; have := (HB.out.own.lt e2).2; omega))
          clear hO6 hap6 HRC HWA HPX HRo
          (with_reducible refine Calls.mono (TA.out _ HWR.out.tape) ?_)
          rintro e w7 ⟨rfl, ht7, hb7⟩
          go_wp2_with fail
          (with_reducible refine Calls.mono (RA.out _) ?_)
          rintro e w8 ⟨RS, hRS, rfl, hb8⟩
          have hRz : RS.size ≤ 10 := by rw [← size_len, hRS, List.length_replicate]; omega
          have H8 := Lib.hid (hb7.nxt hb8)
          have HT8 := Lib.hid (ht7.below hb8)
          have HRS := Lib.hid hRS
          clear ht7 hb7 hb8 hRS
          go_wp2_with fail
          (with_reducible refine Calls.mono (TB.out _ HT8.out) ?_)
          rintro e w9 ⟨rfl, ht9, hb9⟩
          go_wp2_with fail
          (with_reducible refine Calls.mono (RB.out _) ?_)
          rintro e wA ⟨RT, hRT, rfl, hbA⟩
          have H10 := Lib.hid ((H8.out.trans hb9).nxt hbA)
          have HT10 := Lib.hid (ht9.below hbA)
          have hTz : RT.size ≤ 10 := by rw [← size_len, hRT, List.length_replicate]; omega
          have HRT := Lib.hid hRT
          have hJl := Wo.join_len RT.data.toList (ws.map (·.data.toList)) (fun x hx => (Wo.five_word x (fix_mess HWF.out x hx)).2)
          rw [List.length_map, HWL.out, size_len] at hJl
          have hJl2 : j * (3 + RT.size) ≤ 3 * (3 + 10) := Nat.mul_le_mul (by omega) (by omega)
          have hJz : (Lib.join (ws.map (·.data.toList)) RT.data.toList).length ≤ 39 := by omega
          clear hJl hJl2
          have HJ := Lib.hid (joinsep_any p ws j c RT wA HWL.out (HR6.out.but H10.out (fun a e => by have := (HWR.out.apart H.length (by simp) a (by simpa using e)).2.1; omega)) HLE.out (by omega) (by omega))
          clear ht9 hb9 hbA hRT
          go_wp2_with fail
          (with_reducible refine Calls.mono HJ.out ?_)
          rintro e wB ⟨J, hJ, rfl, hbB⟩
          have H11 := Lib.hid (H10.out.nxt hbB)
          have HT11 := Lib.hid (HT10.out.below hbB)
          have hJz2 : J.size ≤ 39 := by rw [← size_len, hJ]; exact hJz
          have HJJ := Lib.hid hJ
          clear hJz
          have hs11 := (H10.out.nxt hbB).size
          obtain ⟨Z, hZ, hcZ⟩ := suf_lit wB m (by omega)
          have hZz : Z.size ≤ 6 := by rw [← size_len]; exact (Wo.sufs_byte _ hZ).1
          have hxz : xs.size ≤ 1000 := (HB.out.size (by rw [HL.out]; omega)).2.1
          have HZ := Lib.hid hZ
          have HCZ := Lib.hid hcZ
          have HAB := Lib.hid ((Below.refl wB.heap.size wB).alloc (Nat.le_refl _) (.cells #[.string ⟨#[]⟩, .string ⟨#[32]⟩, .string ⟨#[32, 35, 32, 97, 32, 98]⟩, .string ⟨#[35]⟩] 9))
          clear hbB hJ hZ hcZ HJ
          go_wp2_with fail
          (with_reducible refine Calls.mono (TM.out _ (HT11.out.below HAB.out)) ?_)
          rintro e wC ⟨rfl, htC, hbC⟩
          have hc := (hbC.cell (p := ⟨wB.heap.size, m, none⟩) (by simp) (by show wB.heap.size ≠ w.heap.size; omega)).trans HCZ.out
          have H12 := Lib.hid ((H11.out.nxt HAB.out).trans hbC)
          have HTC := Lib.hid htC
          clear htC hbC
          go_wp2
          go_roundw
          case rel =>
            refine ⟨k + 1, _, _, _, _, q4, by omega, by rw [List.length_append, HL.out]; rfl, by simp; omega, rfl, HWR.out.done (a := ga.toNat) (b := (1 + gb).toNat) (R := RS) (J := J) (Z := Z) H12.out HTC.out HWF.out (by rw [HWL.out]; omega) (by omega) (by omega) (by omega) HRS.out (by rw [HJJ.out, HRT.out]) HZ.out ?_⟩
            simp
          case measure => simp [intOf]; omega
    · obtain rfl : k = N := by omega
      have h5 : LL.length ≤ 5 := by rw [HL.out]; omega
      obtain ⟨s1, s2, s3, s4⟩ := hB.size h5
      obtain ⟨⟨f1, f2⟩, f3, f4, f5, f6⟩ := hB.mess.fin s1
      obtain ⟨p, c, rfl, hln⟩ := hB.lines
      have HLN := Lib.hid hln
      have HBW := Lib.hid hB.below
      have J1 := Lib.hid (joinB LL p LL.length c wo rfl hln (by omega) (fun ws hw => by have := s4 ws hw; omega) f3 f4)
      have P1 := Lib.hid (fun (S : ByteArray) (hS : S.data.toList = Wo.jText (lb LL)) (W : World) (hE : Env W) => splitB S LL W hE (by rw [← size_len, hS]; omega) (by rw [hS]; exact f5) (by rw [hS]; exact f6))
      have P2 := Lib.hid (fun (W : World) (hE : Env W) => splitB xs LL W hE (by omega) (by rw [hB.txt]; exact f1) (by rw [hB.txt]; exact f2))
      have SM := Lib.hid (fun (W : World) (p1 : Option Addr) (c1 : Nat) (h1 : LinesAt W p1 LL) (h2 : LinesAt W p LL) => same02_any LL p1 p c1 c W h1 h2)
      clear h5 s1 s2 s3 s4 f1 f2 f3 f4 f5 f6 hln hB HL
      go_wp2_with (first
        | (go_at_call 20; (with_reducible refine Calls.mono J1.out ?_); rintro e w1 ⟨S, hS, rfl, hb1⟩; have HS := Lib.hid hS; clear hS J1; have hc1 := HBW.out.trans (hb1.mono HBW.out.size)))
      (with_reducible refine Calls.mono (P1.out S HS.out w1 (HE.out.below hc1)) ?_)
      rintro e w2 ⟨p2, c2, rfl, hl2, hb2⟩
      have hc2 := hc1.trans (hb2.mono hc1.size)
      go_wp2_with fail
      (with_reducible refine Calls.mono (P2.out w2 (HE.out.below hc2)) ?_)
      rintro e w3 ⟨p3, c3, rfl, hl3, hb3⟩
      have hc3 := hc2.trans (hb3.mono hc2.size)
      have L23 := Lib.hid (hl2.out.below hb3)
      have L03 := Lib.hid (((HLN.out.below hb1).below hb2).below hb3)
      go_wp2_with fail
      (with_reducible refine Calls.mono (SM.out w3 p2 c2 L23.out L03.out) ?_)
      rintro e w4 ⟨rfl, hb4⟩
      have hc4 := hc3.trans (hb4.mono hc3.size)
      go_wp2_with fail
      (with_reducible refine Calls.mono (SM.out w4 p3 c3 (hl3.out.below hb4) (L03.out.below hb4)) ?_)
      rintro e w5 ⟨rfl, hb5⟩
      have hc5 := hc4.trans (hb5.mono hc4.size)
      go_wp2_with fail
      (with_reducible refine Calls.mono (awake02_any w5 (HE.out.below hc5)) ?_)
      rintro e w6 ⟨rfl, hb6⟩
      go_wp2
      go_ret
      exact ⟨rfl, hc5.trans (hb6.mono hc5.size)⟩
end Go.Proofs.YtndikbpmhlhgfaaDoor
