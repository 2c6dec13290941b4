/-
  THE WALK over law17.SchemeConflicts.
-/
import Derived.Test.YtflcdkibjakciaaGreatDoorT45
import Derived.Test.YtflcdkibjakciaaGreatDoorM5
namespace Go.Proofs.YtflcdkibjakciaaGreatDoor
open Go.RowKit Te Sc

theorem bits_and_nat (x y : Nat) (hx : x < 9223372036854775808) (hy : y < 9223372036854775808) : bits BinOp.and IntKind.i64 (x : Int) (y : Int) = ((x &&& y : Nat) : Int) := by
  have h1 : bits BinOp.and IntKind.i64 (x : Int) (y : Int) = IntKind.i64.wrap (((BitVec.ofInt 64 (x : Int) &&& BitVec.ofInt 64 (y : Int) : BitVec 64).toNat : Nat) : Int) := rfl
  have e : ∀ u : Nat, u < 9223372036854775808 → ((u : Int) % ((2 ^ 64 : Nat) : Int)).toNat = u := fun u hu => by
    rw [show (((2 ^ 64 : Nat) : Int)) = 18446744073709551616 from by decide]; omega
  rw [h1, BitVec.toNat_and, BitVec.toNat_ofInt, BitVec.toNat_ofInt, e x hx, e y hy, IntKind.wrap_i64]
  have := Nat.and_le_left (n := x) (m := y)
  omega

theorem confT_is (v : Option (Int × Int)) : ∃ x y : Int, confT v = .tuple #[.int .i64 x, .int .i64 y, .bool v.isSome] := by
  cases v with
  | none => exact ⟨0, 0, rfl⟩
  | some c => exact ⟨c.1, c.2, rfl⟩

theorem Sc.LawOk.small {L : List Sch} (h : LawOk L) : ∀ s ∈ L, s.nm.size ≤ 9223372036854775807 := fun s hs => by
  have := (one_parts (h.one s hs)).2.2.2.2.2.2.2
  have h2 := (Cr.name_word this).2
  rw [size_len] at h2
  omega

theorem mod_eq {x n y m : Int} (h : bitB x n = bitB y m) : (x / 2 ^ n.toNat % 2 != y / 2 ^ m.toNat % 2) = false := by
  unfold bitB at h
  rw [decide_eq_decide] at h
  rw [bne_eq_false_iff_eq]
  omega

theorem any_take {α : Type} (f : α → Bool) (L : List α) (k : Nat) (h : k < L.length) : (L.take (k + 1)).any f = ((L.take k).any f || f L[k]) := by
  rw [List.take_succ_eq_append_getElem h, List.any_append]; simp

set_option maxRecDepth 100000 in
set_option maxHeartbeats 8000000 in
theorem schemeConflicts_walk (a : Option Addr) (len cap : Nat) (z : List Int) (s1 s2 : Int) (w : World) (h : IsRow .i64 w a len cap z) (wb1 : (Lit.int .u8 s1).wf = true) (wb2 : (Lit.int .u8 s2).wf = true) (hE : Env w) :
    Calls Tryz.prog 7 #[.slice a len cap, .int .u8 s1, .int .u8 s2] w (Yes w) := by
  have HN := Lib.hid (new_any a len cap z w h)
  have HE := Lib.hid hE
  obtain ⟨b0, b1⟩ := bd_u8 wb1
  obtain ⟨b2, b3⟩ := bd_u8 wb2
  clear h hE wb1 wb2
  obtain ⟨l, el⟩ : ∃ l, (z.take len).take 400 = l := ⟨_, rfl⟩
  rw [el] at HN
  clear el
  go_enter Tryz.func7, Tryz.ntmps7
  go_wp2_with (first
    | (go_at_call 9; refine Calls.mono HN.out ?_; rintro e w1 ⟨rfl, ht1, hb1⟩)
    | fail)
  (with_reducible refine Calls.mono (tapeLaw_any w.heap.size l 0 3 (by decide) w1 ht1) ?_)
  rintro e w2 ⟨v, L, q, rfl, hLw, hck, -, -, -, hB2⟩
  have HB2 := Lib.hid (hb1.trans (hB2.below (Nat.le_refl _) hb1.size))
  obtain ⟨n, hn⟩ : ∃ n, L.length = n := ⟨_, rfl⟩
  obtain ⟨p, c, d, rfl, hnc, -, hss⟩ := hLw.ss hn
  have OK := Lib.hid (lawOk hck)
  have HS := Lib.hid hss
  have CKK := Lib.hid hck
  have HLN := Lib.hid hn
  have HNC := Lib.hid hnc
  have hnb : n ≤ 16 := by rw [← hn]; exact OK.out.len
  have CK := Lib.hid (check17_any d p L c w2 hss OK.out.small (by rw [hn]; exact hnc))
  rw [hck, hn] at CK
  unfold ChkG at CK
  clear hLw hck hB2 hb1 ht1 hss hn HN
  go_wp2_with fail
  (with_reducible refine Calls.mono CK.out ?_)
  rintro e w3 ⟨rfl, hb3⟩
  have HB3 := Lib.hid (bstep (Nat.le_refl _) HB2.out hb3)
  have HS3 := Lib.hid (HS.out.below hb3)
  clear hb3 CK
  obtain ⟨S1, rfl⟩ : ∃ N : Nat, s1 = (N : Int) := Int.eq_ofNat_of_zero_le b0
  obtain ⟨S2, rfl⟩ : ∃ N : Nat, s2 = (N : Int) := Int.eq_ofNat_of_zero_le b2
  have CF := Lib.hid (fun (set : Int) (W : World) (hW : SsAt (fun b => w1.heap.size ≤ b) W d p L) => conf17_any d p L c set W hW OK.out.small (by rw [HLN.out]; exact HNC.out))
  simp only [conf17_ok CKK.out, HLN.out] at CF
  unfold ConfG at CF
  obtain ⟨o1, eo1⟩ : ∃ o, conf1 (S1 : Int) L = o := ⟨_, rfl⟩
  obtain ⟨set2, es2⟩ : ∃ s, bits BinOp.and IntKind.i64 (S1 : Int) (S2 : Int) = s := ⟨_, rfl⟩
  obtain ⟨o2, eo2⟩ : ∃ o, conf1 set2 L = o := ⟨_, rfl⟩
  have C1 := Lib.hid (CF.out (S1 : Int) w3 HS3.out)
  have C2 := Lib.hid (fun (W : World) (hW : SsAt (fun b => w1.heap.size ≤ b) W d p L) => CF.out set2 W hW)
  rw [eo1] at C1
  rw [eo2] at C2
  obtain ⟨x1, y1, et1⟩ := confT_is o1
  obtain ⟨x2, y2, et2⟩ := confT_is o2
  rw [et1] at C1
  rw [et2] at C2
  have I1 := Lib.hid (show o1.isSome = clash (S1 : Int) L from by rw [← eo1]; exact conf_clash OK.out)
  have I2 := Lib.hid (show o2.isSome = true → o1.isSome = true from by
    rw [← eo1, ← eo2, conf_clash OK.out, conf_clash OK.out, ← es2, bits_and_nat S1 S2 (by omega) (by omega)]
    refine clash_sub fun s hs hb => ?_
    obtain ⟨N, hN⟩ : ∃ N : Nat, s.num = (N : Int) := Int.eq_ofNat_of_zero_le (OK.out.num hs).1
    rw [hN] at hb ⊢
    exact bit_and hb)
  obtain ⟨ok, eok⟩ : ∃ b, o1.isSome = b := ⟨_, rfl⟩
  obtain ⟨pt, ept⟩ : ∃ b, o2.isSome = b := ⟨_, rfl⟩
  rw [eok] at C1 I1 I2
  rw [ept] at C2 I2
  clear eo1 eo2 et1 et2 eok ept
  go_wp2_with fail
  (with_reducible refine Calls.mono C1.out ?_)
  rintro e w4 ⟨rfl, hb4⟩
  have HB4 := Lib.hid (bstep (Nat.le_refl _) HB3.out hb4)
  have HS4 := Lib.hid (HS3.out.below hb4)
  clear hb4
  go_wp2_with fail
  (with_reducible refine Calls.mono (C2.out w4 HS4.out) ?_)
  rintro e w5 ⟨rfl, hb5⟩
  have HB5 := Lib.hid (bstep (Nat.le_refl _) HB4.out hb5)
  have HS5 := Lib.hid (HS4.out.below hb5)
  clear hb5 C1 C2 CF es2 HS HS3 HS4
  go_wp2_with fail
  go_loopw [16, 56] (fun wt i wr => ∃ k : Nat, k ≤ n ∧ i = .int .i64 k ∧ wt = .bool ((L.take k).any fun a => L.any (confB (S1 : Int) a)) ∧ Below w5.heap.size w5 wr) (fun _ i _ => n - (intOf i).toNat)
  case atStart => exact ⟨0, Nat.zero_le _, rfl, by simp, Below.refl _ _⟩
  case round =>
    obtain ⟨wo, rfl⟩ : ∃ wo : World, wo = wr := ⟨_, rfl⟩
    obtain ⟨k, hk, rfl, rfl, hb⟩ := hrel
    have HB := Lib.hid hb
    have hk0 : (0 : Int) ≤ (k : Int) := Int.natCast_nonneg _
    by_cases hlt : k < n
    · have hk1 : (k : Int) < (n : Int) := by omega
      have hkL : k < L.length := by rw [HLN.out]; exact hlt
      obtain ⟨b, off, r, rfl, hbl, hC, hv⟩ := (HS5.out.below hb).at hkL
      obtain ⟨A, eA⟩ : ∃ A, L[k] = A := ⟨_, rfl⟩
      rw [eA] at hv
      have MA := Lib.hid (show A ∈ L from eA ▸ List.getElem_mem hkL)
      have RU := Lib.hid hv.num
      have RE := Lib.hid hv.ex
      have TK := Lib.hid (any_take (fun a => L.any (confB (S1 : Int) a)) L k hkL)
      rw [eA] at TK
      obtain ⟨z0, ez0⟩ : ∃ b, ((L.take k).any fun a => L.any (confB (S1 : Int) a)) = b := ⟨_, rfl⟩
      rw [ez0] at TK ⊢
      obtain ⟨c0, c1, c2, c3, c4, c5, c6, c7, c8, c9⟩ := hC
      obtain ⟨num, nm, ⟨o, tn, tm, tp, tl, tc⟩, bp, bn, bc, least, ex, needs⟩ := r
      simp only at c0 c1 c2 c3 c4 c5 c6 c7 c8 c9 RU RE
      have hnum := OK.out.num MA.out
      rw [← RU.out] at hnum
      obtain ⟨h0, h15⟩ := hnum
      clear hb hv ez0 eA
      go_wp2_with fail
      obtain ⟨W1, eW1⟩ : ∃ W : World, W = wo.alloc (.cells #[.int .i64 num, .string nm, .int .i64 o, .int .i64 tn, .int .i64 tm, .slice tp tl tc, .slice bp bn bc, .int .i64 least, .int .i64 ex, .bool needs] 32) := ⟨_, rfl⟩
      have HS1 := Lib.hid (show wo.heap.size < W1.heap.size by rw [eW1]; simp)
      have V0 := Lib.hid (show W1.cell? ⟨wo.heap.size, 0, none⟩ = some (.int .i64 num) from by rw [eW1]; exact World.cell?_alloc_new _ _ _ 0)
      have V8 := Lib.hid (show W1.cell? ⟨wo.heap.size, 8, none⟩ = some (.int .i64 ex) from by rw [eW1]; exact World.cell?_alloc_new _ _ _ 8)
      have HW1 := Lib.hid (show Below w5.heap.size w5 W1 from by rw [eW1]; exact balloc (Nat.le_refl _) HB.out (.cells #[.int .i64 num, .string nm, .int .i64 o, .int .i64 tn, .int .i64 tm, .slice tp tl tc, .slice bp bn bc, .int .i64 least, .int .i64 ex, .bool needs] 32))
      rw [← eW1]
      clear eW1 c0 c1 c2 c3 c4 c5 c6 c7 c8 c9
      go_loopw [16, 62] (fun wt i wr => ∃ j : Nat, j ≤ n ∧ i = .int .i64 j ∧ wt = .bool (z0 || (L.take j).any (confB (S1 : Int) A)) ∧ Below W1.heap.size W1 wr) (fun _ i _ => n - (intOf i).toNat)
      case atStart => exact ⟨0, Nat.zero_le _, rfl, by simp, Below.refl _ _⟩
      case round =>
        obtain ⟨wi, rfl⟩ : ∃ wi : World, wi = wr := ⟨_, rfl⟩
        obtain ⟨j, hj, rfl, rfl, hbi⟩ := hrel
        have HBI := Lib.hid hbi
        have HBW := Lib.hid (bstep (Nat.le_refl _) HW1.out hbi)
        have hj0 : (0 : Int) ≤ (j : Int) := Int.natCast_nonneg _
        by_cases hjk : j < n
        · have hj1 : (j : Int) < (n : Int) := by omega
          have hjL : j < L.length := by rw [HLN.out]; exact hjk
          have hx0 := (hbi.cell (p := ⟨wo.heap.size, 0, none⟩) HS1.out).trans V0.out
          have hx8 := (hbi.cell (p := ⟨wo.heap.size, 8, none⟩) HS1.out).trans V8.out
          have hlw := Nat.lt_of_lt_of_le HS1.out hbi.size
          obtain ⟨b', off', y, ey, hyl, hY, hyv⟩ := (HS5.out.below HBW.out).at hjL
          cases ey
          obtain ⟨D, eD⟩ : ∃ D, L[j] = D := ⟨_, rfl⟩
          rw [eD] at hyv
          have MD := Lib.hid (show D ∈ L from eD ▸ List.getElem_mem hjL)
          have YU := Lib.hid hyv.num
          have YE := Lib.hid hyv.ex
          have TJ := Lib.hid (any_take (confB (S1 : Int) A) L j hjL)
          rw [eD] at TJ
          obtain ⟨z1, ez1⟩ : ∃ b, (L.take j).any (confB (S1 : Int) A) = b := ⟨_, rfl⟩
          rw [ez1] at TJ ⊢
          obtain ⟨y0, y1', y2', y3, y4, y5, y6, y7, y8, y9⟩ := hY
          obtain ⟨ynum, ynm, ⟨yo, ytn, ytm, ytp, ytl, ytc⟩, ybp, ybn, ybc, yleast, yex, yneeds⟩ := y
          simp only at y0 y1' y2' y3 y4 y5 y6 y7 y8 y9 YU YE
          have hyn := OK.out.num MD.out
          rw [← YU.out] at hyn
          obtain ⟨g0, g15⟩ := hyn
          have MU := OK.out.mutual MA.out MD.out
          rw [← RE.out, ← YE.out, ← RU.out, ← YU.out] at MU
          have MN := mod_eq MU
          obtain ⟨k1, e1⟩ : ∃ z, bitB (S1 : Int) num = z := ⟨_, rfl⟩
          obtain ⟨k2, e2⟩ : ∃ z, bitB (S1 : Int) ynum = z := ⟨_, rfl⟩
          obtain ⟨k3, e3⟩ : ∃ z, bitB ex ynum = z := ⟨_, rfl⟩
          have E1 : (bits BinOp.and IntKind.i64 ((S1 : Int) / 2 ^ num.toNat) 1 == 1) = k1 := by rw [bit_one, e1]
          have E2 : (bits BinOp.and IntKind.i64 ((S1 : Int) / 2 ^ ynum.toNat) 1 == 1) = k2 := by rw [bit_one, e2]
          have E3 : (bits BinOp.and IntKind.i64 (ex / 2 ^ ynum.toNat) 1 == 1) = k3 := by rw [bit_one, e3]
          have E4 : (bits BinOp.and IntKind.i64 (ex / 2 ^ ynum.toNat) 1 != bits BinOp.and IntKind.i64 (yex / 2 ^ num.toNat) 1) = false := by rw [and_bit, and_bit]; exact MN
          have CB := Lib.hid (show confB (S1 : Int) A D = (k1 && (k2 && k3)) from by unfold confB; rw [← RU.out, ← YU.out, ← RE.out, e1, e2, e3])
          have HBJ := Lib.hid (balloc (Nat.le_refl _) hbi (.cells #[.int .i64 ynum, .string ynm, .int .i64 yo, .int .i64 ytn, .int .i64 ytm, .slice ytp ytl ytc, .slice ybp ybn ybc, .int .i64 yleast, .int .i64 yex, .bool yneeds] 32))
          have HD := Lib.hid HBJ.out.drew
          clear hbi hyv ez1 eD MU MN e1 e2 e3
          go_wp2_with fail
          obtain ⟨W2, eW2⟩ : ∃ W : World, W = wi.alloc (.cells #[.int .i64 ynum, .string ynm, .int .i64 yo, .int .i64 ytn, .int .i64 ytm, .slice ytp ytl ytc, .slice ybp ybn ybc, .int .i64 yleast, .int .i64 yex, .bool yneeds] 32) := ⟨_, rfl⟩
          have x0 : W2.cell? ⟨wo.heap.size, 0, none⟩ = some (.int .i64 num) := by rw [eW2]; exact (World.cell?_alloc_past _ _ _ hlw).trans hx0
          have x8 : W2.cell? ⟨wo.heap.size, 8, none⟩ = some (.int .i64 ex) := by rw [eW2]; exact (World.cell?_alloc_past _ _ _ hlw).trans hx8
          have n0 : W2.cell? ⟨wi.heap.size, 0, none⟩ = some (.int .i64 ynum) := by rw [eW2]; exact World.cell?_alloc_new _ _ _ 0
          have n8 : W2.cell? ⟨wi.heap.size, 8, none⟩ = some (.int .i64 yex) := by rw [eW2]; exact World.cell?_alloc_new _ _ _ 8
          have HW2 := Lib.hid (show Below W1.heap.size W1 W2 from eW2 ▸ HBJ.out)
          rw [← eW2]
          obtain ⟨zz, ezz⟩ : ∃ b, (z0 || z1) = b := ⟨_, rfl⟩
          have HV := Lib.hid (show ∀ b, (zz || (k1 && (k2 && k3))) = b → (z0 || (L.take (j + 1)).any (confB (S1 : Int) A)) = b from fun b hb => by rw [TJ.out, CB.out, ← Bool.or_assoc, ezz]; exact hb)
          rw [ezz]
          clear eW2 hx0 hx8 y0 y1' y2' y3 y4 y5 y6 y7 y8 y9 HBJ HD ezz
          go_quiet (fail)
          cases zz
          · cases k1
            · go_wp2
              go_roundw
              case rel => exact ⟨j + 1, by omega, by go_num, by rw [HV.out false rfl], HW2.out.trans ((drewN_below _ _).mono HW2.out.size)⟩
              case measure => simp [intOf]; omega
            cases k2
            · go_wp2
              go_roundw
              case rel => exact ⟨j + 1, by omega, by go_num, by rw [HV.out false rfl], HW2.out.trans ((drewN_below _ _).mono HW2.out.size)⟩
              case measure => simp [intOf]; omega
            cases k3
            · go_wp2
              go_roundw
              case rel => exact ⟨j + 1, by omega, by go_num, by rw [HV.out false rfl], HW2.out.trans ((drewN_below _ _).mono HW2.out.size)⟩
              case measure => simp [intOf]; omega
            · go_wp2
              go_roundw
              case rel => exact ⟨j + 1, by omega, by go_num, by rw [HV.out true rfl], HW2.out.trans ((drewN_below _ _).mono HW2.out.size)⟩
              case measure => simp [intOf]; omega
          · go_wp2
            go_roundw
            case rel => exact ⟨j + 1, by omega, by go_num, by rw [HV.out true rfl], HW2.out.trans ((drewN_below _ _).mono HW2.out.size)⟩
            case measure => simp [intOf]; omega
        · obtain rfl : j = n := by omega
          have TN := Lib.hid (show L.take j = L from by rw [← HLN.out, List.take_length])
          rw [TN.out]
          have TZ := Lib.hid (TK.out)
          clear hbi
          go_wp2
          go_roundw
          case rel => exact ⟨k + 1, by omega, by go_num, by rw [TK.out], HBW.out⟩
          case measure => simp [intOf]; omega
    · obtain rfl : k = n := by omega
      have TN := Lib.hid (show (L.take k).any (fun a => L.any (confB (S1 : Int) a)) = ok from by rw [← HLN.out, List.take_length, I1.out]; rfl)
      rw [TN.out]
      have HBF := Lib.hid (bstep (Nat.le_refl _) HB5.out hb)
      have AW := Lib.hid (awake17_any wo (HE.out.below HBF.out))
      unfold Yes at AW
      clear hb
      cases ok
      · have hpt : pt = false := by cases pt with | false => rfl | true => exact absurd (I2.out rfl) (by decide)
        subst hpt
        go_wp2_with (first | (go_at_call 12; (with_reducible refine Calls.mono AW.out ?_); rintro e w7 ⟨rfl, hb7⟩; have HF := Lib.hid (bstep (Nat.le_refl _) HBF.out hb7); clear hb7) | fail)
        go_ret
        exact ⟨rfl, HF.out⟩
      · cases pt
        all_goals
          go_wp2_with (first | (go_at_call 12; (with_reducible refine Calls.mono AW.out ?_); rintro e w7 ⟨rfl, hb7⟩; have HF := Lib.hid (bstep (Nat.le_refl _) HBF.out hb7); clear hb7) | fail)
          go_ret
          exact ⟨rfl, HF.out⟩

end Go.Proofs.YtflcdkibjakciaaGreatDoor
