/-
  THE WALK over scheme.lines.
-/
import Derived.Test.YtflcdkibjakciaaGreatDoorM15
import Derived.Test.YtflcdkibjakciaaGreatDoorM11
import Derived.Test.YtflcdkibjakciaaGreatDoorM20
import Derived.Test.YtflcdkibjakciaaGreatDoorM14
namespace Go.Proofs.YtflcdkibjakciaaGreatDoor
open Go.RowKit Te Sc

def bw (LL : List (List (List UInt8))) : List (List ByteArray) := LL.map fun ws => ws.map bs
theorem bw_append (a b : List (List (List UInt8))) : bw (a ++ b) = bw a ++ bw b := List.map_append
theorem bw_len (a : List (List (List UInt8))) : (bw a).length = a.length := List.length_map _

/-- Lines in new memory. -/
def LinesG (LL : List (List (List UInt8))) (w : World) (e : Ending) (w' : World) : Prop := ∃ v H, e = .returned v ∧ LB w w' v (bw LL) H

theorem linesS_eq (s : Sch) : linesS s = ([headW s, wIf :: textW s.cond] ++ s.br.map rateW) ++ notsTo s.ex 16 := by
  unfold linesS; simp

/-- The lines, when the first loop begins. -/
def base (s : Sch) : List (List (List UInt8)) := [headW s, wIf :: textW s.cond]
def atRate (s : Sch) (k : Nat) : List (List (List UInt8)) := base s ++ (s.br.take k).map rateW
def atNot (s : Sch) (k : Nat) : List (List (List UInt8)) := atRate s s.br.length ++ notsTo s.ex k

theorem atRate_zero (s : Sch) : atRate s 0 = base s := by unfold atRate; simp
theorem atRate_succ (s : Sch) (k : Nat) (h : k < s.br.length) : bw (atRate s (k + 1)) = bw (atRate s k) ++ [(rateW s.br[k]).map bs] := by
  unfold atRate; rw [take_map_succ rateW s.br k h, ← List.append_assoc, bw_append]; rfl
theorem atRate_at (s : Sch) (k : Nat) (x : Brk) (h : s.br[k]? = some x) : bw (atRate s (k + 1)) = bw (atRate s k) ++ [(rateW x).map bs] := by
  obtain ⟨hk, e⟩ := List.getElem?_eq_some_iff.1 h
  rw [atRate_succ s k hk, e]
theorem atNot_zero (s : Sch) : atNot s 0 = atRate s s.br.length := by unfold atNot notsTo; simp
theorem atNot_yes (s : Sch) (k : Nat) (h : bitB s.ex (k : Int) = true) : bw (atNot s (k + 1)) = bw (atNot s k) ++ [[bs wNot, bs (Lib.itoa (k : Int))]] := by
  unfold atNot; rw [notsTo_succ, if_pos h, ← List.append_assoc, bw_append]; rfl
theorem atNot_no (s : Sch) (k : Nat) (h : bitB s.ex (k : Int) = false) : atNot s (k + 1) = atNot s k := by
  unfold atNot; rw [notsTo_succ, if_neg (by rw [h]; decide), List.append_nil]
theorem atNot_all (s : Sch) : atNot s 16 = linesS s := by rw [linesS_eq]; unfold atNot atRate base; rw [List.take_length]
theorem atRate_len (s : Sch) (k : Nat) : (bw (atRate s k)).length ≤ 2 + s.br.length := by
  rw [bw_len]; unfold atRate base; rw [List.length_append, List.length_map, List.length_take]; simp; omega
theorem notsTo_len (x : Int) (n : Nat) : (notsTo x n).length ≤ n := by
  induction n with
  | zero => simp [notsTo]
  | succ n ih => rw [notsTo_succ, List.length_append]; split <;> simp <;> omega
theorem atNot_len (s : Sch) (k : Nat) (h : k ≤ 16) : (bw (atNot s k)).length ≤ 18 + s.br.length := by
  have h1 := atRate_len s s.br.length
  have h2 := notsTo_len s.ex k
  rw [bw_len] at h1 ⊢
  unfold atNot
  rw [List.length_append]; omega

/-- The slice of a row of the call's own. -/
theorem OwnR.hd {w : World} {B : Nat} {v : Value} {L : List ByteArray} (h : OwnR SB w 9 B v L) {n : Nat} (hn : L.length = n) : ∃ p c, v = .slice p n c ∧ WordsAt w ⟨p, n, c⟩ L ∧ ∀ a, p = some a → B ≤ a.block ∧ a.block < w.heap.size := by
  obtain ⟨p, c, e, h1, h2, h3, -, h5⟩ := h.cut hn
  exact ⟨p, c, e, ⟨hn.symm, h5, fun e => (h1 e).1, h3⟩, fun a e => ⟨(h2 a e).2.2.1, (h2 a e).2.2.2⟩⟩

set_option maxRecDepth 100000 in
set_option maxHeartbeats 8000000 in
theorem lines17_any {Q : Nat → Prop} (d : Nat) (r : RSx) (s : Sch) (w : World) (h : SV Q w d r s) (h1 : one17 s = 0) (hE : Env w) :
    Calls Tryz.prog 37 #[.agg #[.int .i64 r.num, .string r.nm, .int .i64 r.t.op, .int .i64 r.t.num, .int .i64 r.t.more, .slice r.t.p r.t.n r.t.c, .slice r.bp r.bn r.bc, .int .i64 r.least, .int .i64 r.ex, .bool r.needs]] w (LinesG (linesS s) w) := by
  have OK := one_parts h1
  have HE := Lib.hid hE
  have HBR := Lib.hid h.br
  have HBN := h.bn
  have HNE := h.needs
  have HEX := h.ex
  have HLE := h.least
  have HNU := h.num
  have HNM := h.nm
  have WD := Lib.hid (fun (W : World) (hW : Below w.heap.size w W) => words16_any d r.t s.cond W (h.below hW).t OK.2.2.2.2.1 (hE.below hW))
  have TL := Lib.hid (show (textW s.cond).length ≤ 480 from by have h1 := textW_len (chkT_ok OK.2.2.2.2.1).2.2; have h2 := (chkT_ok OK.2.2.2.2.1).1; omega)
  have HN := Lib.hid (fun k (hk : k ≤ 16) => atNot_len s k hk)
  have HRL := Lib.hid (fun k => atRate_len s k)
  have HRS := Lib.hid (fun k x hx => atRate_at s k x hx)
  have HNY := Lib.hid (fun k hk => atNot_yes s k hk)
  have HNN := Lib.hid (fun k hk => atNot_no s k hk)
  have HN0 := Lib.hid (atNot_zero s)
  have HR0 := Lib.hid (atRate_zero s)
  have HNA := Lib.hid (atNot_all s)
  have EBASE := Lib.hid (show base s = [headW s, wIf :: textW s.cond] from rfl)
  have EHEAD := Lib.hid (show headW s = [wScheme, Lib.itoa r.num, r.nm.data.toList, Lib.itoa r.least] ++ (if r.needs then [wEnt] else []) from by rw [HNU, HNM, HLE, HNE]; rfl)
  obtain ⟨LS, eLS⟩ : ∃ x, linesS s = x := ⟨_, rfl⟩
  rw [eLS] at HNA ⊢
  obtain ⟨AN, eAN⟩ : ∃ x, atNot s = x := ⟨_, rfl⟩
  obtain ⟨AR, eAR⟩ : ∃ x, atRate s = x := ⟨_, rfl⟩
  obtain ⟨BA, eBA⟩ : ∃ x, base s = x := ⟨_, rfl⟩
  obtain ⟨HW, eHW⟩ : ∃ x, headW s = x := ⟨_, rfl⟩
  obtain ⟨TW, eTW⟩ : ∃ x, textW s.cond = x := ⟨_, rfl⟩
  obtain ⟨br, ebr⟩ : ∃ x, s.br = x := ⟨_, rfl⟩
  simp only [eAN, eAR, ebr] at HNA HN0 HN HRL HRS HNY HNN
  rw [eAR, eBA] at HR0
  rw [eBA, eHW, eTW] at EBASE
  rw [eHW] at EHEAD
  rw [eTW] at TL
  unfold WordsG at WD
  rw [eTW] at WD
  rw [ebr] at HBR HBN
  have obr : brB br = true := ebr ▸ OK.2.2.2.2.2.1
  rw [← HEX] at HNY HNN
  have o1 := OK.1
  have o2 := OK.2.1
  have o3 := OK.2.2.1
  have o4 := OK.2.2.2.1
  rw [← HNU] at o1 o2
  rw [← HLE] at o3 o4
  clear h hE h1 OK eLS eAN eAR eBA eHW eTW ebr HNE HEX HLE HNU HNM s
  obtain ⟨num, nm, ⟨o, tn, tm, tp, tl, tc⟩, bp, bn, bc, least, ex, needs⟩ := r
  simp only at HBR HBN o1 o2 o3 o4 WD EHEAD HNY HNN
  have HA := Lib.hid (balloc (Nat.le_refl _) (Below.refl w.heap.size w) (.cells #[.int .i64 num, .string nm, .int .i64 o, .int .i64 tn, .int .i64 tm, .slice tp tl tc, .slice bp bn bc, .int .i64 least, .int .i64 ex, .bool needs] 32))
  have hbl6 := (brB_len obr)
  have BEA := Lib.hid (br_each obr)
  have hblen := HBR.out.len
  subst HBN
  clear obr
  obtain ⟨W1, eW1⟩ : ∃ W : World, W = w.alloc (.cells #[.int .i64 num, .string nm, .int .i64 o, .int .i64 tn, .int .i64 tm, .slice tp tl tc, .slice bp br.length bc, .int .i64 least, .int .i64 ex, .bool needs] 32) := ⟨_, rfl⟩
  have HW1 := Lib.hid (show Below w.heap.size w W1 from by rw [eW1]; exact HA.out)
  have HS1 := Lib.hid (show w.heap.size < W1.heap.size by rw [eW1]; simp)
  have hcell : ∀ i u, (#[.int .i64 num, .string nm, .int .i64 o, .int .i64 tn, .int .i64 tm, .slice tp tl tc, .slice bp br.length bc, .int .i64 least, .int .i64 ex, .bool needs] : Array Value)[i]? = some u → W1.cell? ⟨w.heap.size, i, none⟩ = some u := fun i u hu => by rw [eW1]; exact (World.cell?_alloc_new _ _ _ _).trans hu
  have KC := Lib.hid (fun (W : World) (hb : Below W1.heap.size W1 W) i u (hu : (#[.int .i64 num, .string nm, .int .i64 o, .int .i64 tn, .int .i64 tm, .slice tp tl tc, .slice bp br.length bc, .int .i64 least, .int .i64 ex, .bool needs] : Array Value)[i]? = some u) => show W.cell? ⟨w.heap.size, i, none⟩ = some u from (hb.cell (p := ⟨w.heap.size, i, none⟩) HS1.out).trans (hcell i u hu))
  have KR := Lib.hid (fun (W : World) (hb : Below W1.heap.size W1 W) => show W.cell? ⟨w.heap.size, 0, none⟩ = some (.int .i64 num) ∧ W.cell? ⟨w.heap.size, 1, none⟩ = some (.string nm) ∧ W.cell? ⟨w.heap.size, 7, none⟩ = some (.int .i64 least) from ⟨KC.out W hb 0 _ rfl, KC.out W hb 1 _ rfl, KC.out W hb 7 _ rfl⟩)
  have KT := Lib.hid (fun (W : World) (hb : Below W1.heap.size W1 W) => show W.cell? ⟨w.heap.size, 2, none⟩ = some (.int .i64 o) ∧ W.cell? ⟨w.heap.size, 3, none⟩ = some (.int .i64 tn) ∧ W.cell? ⟨w.heap.size, 4, none⟩ = some (.int .i64 tm) ∧ W.cell? ⟨w.heap.size, 5, none⟩ = some (.slice tp tl tc) ∧ W.cell? ⟨w.heap.size, 6, none⟩ = some (.slice bp br.length bc) ∧ W.cell? ⟨w.heap.size, 8, none⟩ = some (.int .i64 ex) ∧ W.cell? ⟨w.heap.size, 9, none⟩ = some (.bool needs) from ⟨KC.out W hb 2 _ rfl, KC.out W hb 3 _ rfl, KC.out W hb 4 _ rfl, KC.out W hb 5 _ rfl, KC.out W hb 6 _ rfl, KC.out W hb 8 _ rfl, KC.out W hb 9 _ rfl⟩)
  have DE := Lib.hid (fun (n : Int) (W : World) (hb : Below w.heap.size w W) (h0 : -9223372036854775808 ≤ n) (h1 : n ≤ 9223372036854775807) => decimal_any n W (HE.out.below hb) h0 h1)
  have K0d : Below W1.heap.size W1 W1.drew := (Below.refl _ _).drew
  clear hcell
  cases needs
  all_goals
    go_enter Tryz.func37, Tryz.ntmps37
    go_wp2_with fail
    rw [← eW1]
    clear eW1
    go_region_held3 (fun W => W.cell? ⟨w.heap.size, 0, none⟩ = some (.int .i64 num) ∧ W.cell? ⟨w.heap.size, 1, none⟩ = some (.string nm) ∧ W.cell? ⟨w.heap.size, 7, none⟩ = some (.int .i64 least))
      (first | exact KR.out _ (Below.refl _ _) | exact KR.out _ K0d | exact KR.out _ K5 | exact KR.out _ K6 | exact KR.out _ K7 | fail)
      (first
        | (go_at_call 63; (with_reducible refine Calls.mono (DE.out num _ (bstep (Nat.le_refl _) HW1.out K0d) (by omega) (by omega)) ?_); rintro e w5 ⟨rfl, hb5⟩; have K5 : Below W1.heap.size W1 w5 := bstep (Nat.le_refl _) K0d hb5)
        | (go_at_call 63; (with_reducible refine Calls.mono (DE.out least _ (bstep (Nat.le_refl _) HW1.out K5) (by omega) (by omega)) ?_); rintro e w6 ⟨rfl, hb6⟩; have K6 : Below W1.heap.size W1 w6 := bstep (Nat.le_refl _) K5 hb6; have K7 : Below W1.heap.size W1 (w6.alloc (.cells #[.string ⟨#[115, 99, 104, 101, 109, 101]⟩, .string ⟨(Lib.itoa num).toArray⟩, .string nm, .string ⟨(Lib.itoa least).toArray⟩] 9)) := balloc (Nat.le_refl _) K6 _)
        | fail)
    have O7 := Lib.hid (show OwnR SB (w6.alloc (.cells #[.string ⟨#[115, 99, 104, 101, 109, 101]⟩, .string ⟨(Lib.itoa num).toArray⟩, .string nm, .string ⟨(Lib.itoa least).toArray⟩] 9)) 9 W1.heap.size (.slice (some ⟨w6.heap.size, 0, none⟩) 4 4) [bs wScheme, bs (Lib.itoa num), nm, bs (Lib.itoa least)] from row_own w6 9 _ rfl (by omega) K6.size)
    obtain ⟨k2, k3, k4, k5, k6, k8, k9⟩ := KT.out _ K7
    have HK7 := Lib.hid K7
    clear K5 K6 K7 hb5 hb6
  · obtain ⟨pH, epH⟩ : ∃ p, (some ⟨w6.heap.size, 0, none⟩ : Option Addr) = p := ⟨_, rfl⟩
    obtain ⟨W7, eW7⟩ : ∃ W, w6.alloc (.cells #[.string ⟨#[115, 99, 104, 101, 109, 101]⟩, .string ⟨(Lib.itoa num).toArray⟩, .string nm, .string ⟨(Lib.itoa least).toArray⟩] 9) = W := ⟨_, rfl⟩
    rw [epH, eW7] at O7
    rw [eW7] at HK7 k2 k3 k4 k5 k6 k8 k9
    rw [epH, eW7]
    obtain ⟨_, _, er, HWA, HPA⟩ := O7.out.hd (show List.length _ = 4 from rfl)
    cases er
    have HYH := Lib.hid (show WordsAt W7 ⟨pH, 4, 4⟩ (HW.map bs) from by rw [EHEAD.out]; exact HWA)
    have HPH := Lib.hid HPA
    clear epH eW7 HWA HPA O7
    have WD7 := Lib.hid (WD.out W7 (bstep (Nat.le_refl _) HW1.out HK7.out))
    go_wp2_with (first
      | (go_at_call 64; (with_reducible refine Calls.mono WD7.out ?_); rintro e w8 ⟨p8, c8, rfl, hO8, hb8⟩; obtain ⟨_, _, er8, HA8, -⟩ := hO8.hd (List.length_map _); cases er8; have A8 := Lib.hid HA8; have HK8 := Lib.hid (bstep (Nat.le_refl _) HK7.out hb8); have HB8 := Lib.hid hb8; obtain ⟨-, -, -, -, q6, q8, -⟩ := KT.out _ HK8.out; clear hO8 hb8 HA8)
      | (at_builtin; (refine OwnR.appendAll el_str rfl (.tmp 31) (.tmp 32) rfl w8.heap.size (.slice (some ⟨w8.heap.size, 0, none⟩) 1 1) [bs wIf] (TW.map bs) p8 c8 TW.length (List.length_map _) (row_own w8 9 [bs wIf] rfl (by omega) (Nat.le_refl _)) (A8.out.2.1.below ((Below.refl _ _).alloc (Nat.le_refl _) _)) A8.out.2.2.1 rfl (by first | rfl | simp [Act.eval, Act.put]) (by simp) (by have := TL.out; show 1 + _ < _; omega) (by decide) ?_); intro v9 w9 hO9 hap9; obtain ⟨p9, c9, rfl, hA9, hP9⟩ := hO9.hd (show ([bs wIf] ++ TW.map bs).length = 1 + TW.length by simp [Nat.add_comm]); have HB9 := Lib.hid (((Below.refl w8.heap.size w8).alloc (Nat.le_refl _) (.cells #[.string ⟨#[105, 102]⟩] 9)).trans hap9.below); have B19 := Lib.hid (bstep (Nat.le_refl _) HK8.out HB9.out); have r1 := KT.out _ (B19.out.alloc B19.out.size (.cells #[.slice pH 4 4, .slice p9 (1 + TW.length) c9] 56)); obtain ⟨-, -, -, -, r6, r8, -⟩ := r1; have L0 := Lib.hid (LB.two (w := W1) B19.out ((HYH.out.below HB8.out).below HB9.out) hA9 (fun a e => ⟨(HPH.out a e).1, Nat.lt_of_lt_of_le (HPH.out a e).2 (Nat.le_trans HB8.out.size HB9.out.size)⟩) (fun a e => ⟨Nat.le_trans HK8.out.size (hP9 a e).1, (hP9 a e).2⟩)); clear hO9 hap9 hA9 hP9 q6 q8)
      | fail)
    go_loopw [6, 38] (fun v i wr => ∃ (k : Nat) (H : List Hd), k ≤ br.length ∧ i = .int .i64 k ∧ LB W1 wr v (bw (AR k)) H) (fun _ i _ => br.length - (intOf i).toNat)
    case atStart => exact ⟨0, _, Nat.zero_le _, rfl, by rw [HR0.out, EBASE.out]; exact L0.out⟩
    case round =>
      obtain ⟨wo, rfl⟩ : ∃ wo : World, wo = wr := ⟨_, rfl⟩
      obtain ⟨k, R, hk, rfl, hB⟩ := hrel
      have hk0 : (0 : Int) ≤ (k : Int) := Int.natCast_nonneg _
      have HBW := Lib.hid (bstep (Nat.le_refl _) HW1.out hB.below)
      have hRl : R.length ≤ 8 := by have h1 := hB.hl; have h2 := HRL.out k; omega
      clear k2 k3 k4 k5 k6 k8 k9 r6 r8
      by_cases hlt : k < br.length
      · have hk1 : (k : Int) < (br.length : Int) := by omega
        obtain ⟨b, off, x, rfl, hbl, x0, x1, hx⟩ := SBk_at (HBR.out.below HBW.out) hlt
        have HX := Lib.hid (HRS.out k x (by rw [List.getElem?_eq_getElem hlt, hx.out]))
        have hxb := BEA.out x (by rw [← hx.out]; exact List.getElem_mem hlt)
        obtain ⟨up, rate⟩ := x
        simp only at x0 x1 hxb
        have HLB := Lib.hid hB
        have hWB : Below wo.heap.size wo (wo.alloc (.cells #[.int .i64 up, .int .i64 rate] 34)) := (Below.refl _ _).alloc (Nat.le_refl _) _
        have KD := Lib.hid (fun (n : Int) (W : World) (hb : Below (wo.heap.size + 1) (wo.alloc (.cells #[.int .i64 up, .int .i64 rate] 34)) W) (h0 : 0 ≤ n) (h1 : n ≤ 268435456) => DE.out n W (bstep (Nat.le_refl _) HBW.out (hWB.trans (hb.mono (Nat.le_succ _)))) (by omega) (by omega))
        have KX := Lib.hid (fun (W : World) (hb : Below (wo.heap.size + 1) (wo.alloc (.cells #[.int .i64 up, .int .i64 rate] 34)) W) => show W.cell? ⟨wo.heap.size, 0, none⟩ = some (.int .i64 up) ∧ W.cell? ⟨wo.heap.size, 1, none⟩ = some (.int .i64 rate) from
          ⟨(hb.cell (p := ⟨wo.heap.size, 0, none⟩) (Nat.lt_succ_self _)).trans (World.cell?_alloc_new _ _ _ _), (hb.cell (p := ⟨wo.heap.size, 1, none⟩) (Nat.lt_succ_self _)).trans (World.cell?_alloc_new _ _ _ _)⟩)
        have HWB := Lib.hid hWB
        have hsz0 : W1.heap.size ≤ wo.heap.size := hB.below.size
        have K0 : Below (wo.heap.size + 1) (wo.alloc (.cells #[.int .i64 up, .int .i64 rate] 34)) (wo.alloc (.cells #[.int .i64 up, .int .i64 rate] 34)) := Below.refl _ _
        have K0d : Below (wo.heap.size + 1) (wo.alloc (.cells #[.int .i64 up, .int .i64 rate] 34)) (wo.alloc (.cells #[.int .i64 up, .int .i64 rate] 34)).drew := K0.drew
        obtain ⟨u0, u1, u2, u3⟩ := hxb
        have u4 : rate ≤ 268435456 := by omega
        have U0 := Lib.hid u0
        have U1 := Lib.hid u1
        have U2 := Lib.hid u2
        have U4 := Lib.hid u4
        clear hB hWB u0 u1 u2 u3 u4 hx
        go_wp2_with fail
        clear x0 x1 hbl
        go_region_held3 (fun W => W.cell? ⟨wo.heap.size, 0, none⟩ = some (.int .i64 up) ∧ W.cell? ⟨wo.heap.size, 1, none⟩ = some (.int .i64 rate))
          (first | exact KX.out _ K0 | exact KX.out _ K0d | exact KX.out _ K5 | exact KX.out _ K6 | exact KX.out _ (K6.alloc (bl1 K6) _) | exact KX.out _ K8 | exact ⟨(C7 0).trans (KX.out _ K8).1, (C7 1).trans (KX.out _ K8).2⟩ | fail)
          (first
            | (go_at_call 63; (with_reducible refine Calls.mono (KD.out up _ (by first | exact K0d | exact K0) U0.out U1.out) ?_); rintro e wa ⟨rfl, hba⟩; have K5 : Below (wo.heap.size + 1) (wo.alloc (.cells #[.int .i64 up, .int .i64 rate] 34)) wa := (by first | exact K0d.trans (hba.mono (by simp)) | exact K0.trans (hba.mono (by simp))))
            | (go_at_call 63; (with_reducible refine Calls.mono (KD.out rate _ K5 U2.out U4.out) ?_); rintro e wb ⟨rfl, hbb⟩; have K6 : Below (wo.heap.size + 1) (wo.alloc (.cells #[.int .i64 up, .int .i64 rate] 34)) wb := K5.trans (hbb.mono (bl1 K5)); have K8 : Below (wo.heap.size + 1) (wo.alloc (.cells #[.int .i64 up, .int .i64 rate] 34)) ((wb.alloc (.cells #[.string ⟨#[114, 97, 116, 101]⟩, .string ⟨(Lib.itoa up).toArray⟩, .string ⟨(Lib.itoa rate).toArray⟩] 9)).alloc (.cells #[.slice (some ⟨wb.heap.size, 0, none⟩) 3 3] 56)) := (K6.alloc (bl1 K6) _).alloc (Nat.le_succ_of_le (bl1 K6) |> fun h => by rw [World.size_alloc]; exact h) _; have A8x := HWB.out.trans (K8.mono (Nat.le_succ _)); have Y8 := row_hd (row_at wb [bs wRate, bs (Lib.itoa up), bs (Lib.itoa rate)] (n := 3) rfl (by omega)))
            | (refine OwnR.stepAp el_row (by rfl) (.tmp 42) (.tmp 50) (by rfl) W1.heap.size _ R [(⟨some ⟨wb.heap.size, 0, none⟩, 3, 3⟩ : Hd)] (some ⟨wb.heap.size + 1, 0, none⟩) 1 1 rfl (HLB.out.own.below A8x) Y8.1 (fun h => by cases h) (by rfl) (by rfl) (Nat.le_trans hsz0 A8x.size) (by omega) (by decide) ?_; intro v7 w7 hO7 hap7; have C7 := hap7.cells (b := wo.heap.size) (Nat.lt_of_lt_of_le (Nat.lt_succ_self _) (bl1 K8)) (HLB.out.own.away (Nat.le_refl _))) | fail)
        have LN := Lib.hid (HLB.out.add A8x [bs wRate, bs (Lib.itoa up), bs (Lib.itoa rate)] ⟨some ⟨wb.heap.size, 0, none⟩, 3, 3⟩ Y8.2 (fun a e => by cases e; have := bl1 K6; simp; omega) (Nat.le_refl _) hO7 hap7)
        go_wp2
        go_roundw
        case rel => exact ⟨k + 1, _, by omega, by go_num, by rw [HX.out]; exact LN.out⟩
        case measure => simp [intOf]; omega
      · obtain rfl : k = br.length := by omega
        have HLB := Lib.hid hB
        clear hB
        go_wp2
        go_loopw [6, 53] (fun v i wr => ∃ (k : Nat) (H : List Hd), k ≤ 16 ∧ i = .int .i64 k ∧ LB W1 wr v (bw (AN k)) H) (fun _ i _ => 16 - (intOf i).toNat)
        case atStart => exact ⟨0, _, Nat.zero_le _, rfl, by rw [HN0.out]; exact HLB.out⟩
        case round =>
          obtain ⟨wi, rfl⟩ : ∃ wi : World, wi = wr := ⟨_, rfl⟩
          obtain ⟨n, M, hn, rfl, hM⟩ := hrel
          have HMB := Lib.hid hM
          have HBI := Lib.hid (bstep (Nat.le_refl _) HW1.out hM.below)
          have hMl : M.length ≤ 24 := by have h1 := hM.hl; have h2 := HN.out n hn; omega
          obtain ⟨-, -, -, -, -, g8, -⟩ := KT.out _ hM.below
          have hsz0 : W1.heap.size ≤ wi.heap.size := hM.below.size
          obtain ⟨i, ei⟩ : ∃ i : Int, (n : Int) = i := ⟨_, rfl⟩
          have EI := Lib.hid ei
          have hi0 : (0 : Int) ≤ i := by omega
          rw [ei]
          clear hM
          by_cases hlt2 : n < 16
          · have hi1 : i < 16 := by omega
            have hi2 : i ≤ 15 := by omega
            cases eb : bitB ex i
            · have EB : (bits BinOp.and IntKind.i64 (ex / 2 ^ i.toNat) 1 == 1) = false := by rw [bit_one, eb]
              have HM2 := Lib.hid (show LB W1 wi _ (bw (AN (n + 1))) M from by rw [HNN.out n (by rw [EI.out]; exact eb)]; exact HMB.out)
              clear eb ei
              go_wp2
              go_roundw
              case rel => exact ⟨n + 1, M, by omega, by rw [← EI.out]; go_num, HM2.out⟩
              case measure => rw [← EI.out]; simp [intOf]; omega
            · have EB : (bits BinOp.and IntKind.i64 (ex / 2 ^ i.toNat) 1 == 1) = true := by rw [bit_one, eb]
              have HX := Lib.hid (HNY.out n (by rw [EI.out]; exact eb))
              have DI := Lib.hid (DE.out i wi HBI.out (by omega) (by omega))
              clear eb ei
              go_wp2_with (first
                | (go_at_call 63; (with_reducible refine Calls.mono DI.out ?_); rintro e wa ⟨rfl, hba⟩; have HBA := Lib.hid hba; have Y8 := Lib.hid (row_hd (row_at wa [bs wNot, bs (Lib.itoa i)] (n := 2) rfl (by omega))); have A8x := Lib.hid ((hba.alloc hba.size (.cells #[.string ⟨#[110, 111, 116]⟩, .string ⟨(Lib.itoa i).toArray⟩] 9)).alloc (by have := hba.size; rw [World.size_alloc]; omega) (.cells #[.slice (some ⟨wa.heap.size, 0, none⟩) 2 2] 56)); clear hba)
                | (at_builtin; (refine OwnR.appendAll el_row rfl (.tmp 62) (.tmp 66) rfl W1.heap.size _ M [(⟨some ⟨wa.heap.size, 0, none⟩, 2, 2⟩ : Hd)] (some ⟨wa.heap.size + 1, 0, none⟩) 1 1 rfl (HMB.out.own.below A8x.out) Y8.out.1 (fun h => by cases h) rfl (by first | rfl | simp [Act.eval, Act.put]) (Nat.le_trans hsz0 A8x.out.size) (by omega) (by decide) ?_); intro v7 w7 hO7 hap7; have LN := Lib.hid (HMB.out.add A8x.out [bs wNot, bs (Lib.itoa i)] ⟨some ⟨wa.heap.size, 0, none⟩, 2, 2⟩ Y8.out.2 (fun a e => by cases e; have := HBA.out.size; simp; omega) (Nat.le_refl _) hO7 hap7); clear hO7 hap7)
                | fail)
              go_roundw
              case rel => exact ⟨n + 1, _, by omega, by rw [← EI.out]; go_num, by rw [HX.out, EI.out]; exact LN.out⟩
              case measure => rw [← EI.out]; simp [intOf]; omega
          · obtain rfl : n = 16 := by omega
            have hi1 : i = 16 := ei.symm
            clear ei
            subst hi1
            go_wp2
            go_ret
            exact ⟨_, M, rfl, by rw [← HNA.out]; exact HMB.out.elder HW1.out⟩
  · go_wp2_with (first
      | (at_builtin; (refine OwnR.appendAll el_str rfl (.tmp 21) (.tmp 22) rfl W1.heap.size (.slice (some ⟨w6.heap.size, 0, none⟩) 4 4) _ [bs wEnt] (some ⟨(w6.alloc (.cells #[.string ⟨#[115, 99, 104, 101, 109, 101]⟩, .string ⟨(Lib.itoa num).toArray⟩, .string nm, .string ⟨(Lib.itoa least).toArray⟩] 9)).heap.size, 0, none⟩) 1 1 rfl (O7.out.below ((Below.refl _ _).alloc (Nat.le_refl _) _)) (Recs.lit _ 9 [bs wEnt] (by show 1 ≤ _; unfold maxLen; omega)) (fun h => by cases h) rfl (by first | rfl | simp [Act.eval]) (by have := HK7.out.size; rw [World.size_alloc]; omega) (by show 4 + 1 < _; omega) (by decide) ?_); intro v2 W7 hO2 hap2; have HK7n := Lib.hid ((balloc (Nat.le_refl _) HK7.out (.cells #[.string ⟨#[101, 110, 116, 105, 116, 108, 101, 100]⟩] 9)).trans hap2.below); obtain ⟨pH, cH, rfl, hAH, hPH⟩ := hO2.hd (show List.length _ = 5 from rfl); have HYH := Lib.hid (show WordsAt W7 ⟨pH, 5, cH⟩ (HW.map bs) from by rw [EHEAD.out]; exact hAH); have HPH := Lib.hid hPH; have WD7 := Lib.hid (WD.out W7 (bstep (Nat.le_refl _) HW1.out HK7n.out)); clear hO2 hap2 hAH hPH O7 k2 k3 k4 k5 k6 k8 k9; obtain ⟨k2, k3, k4, k5, k6, k8, k9⟩ := KT.out _ HK7n.out)
      | fail)
    replace HK7 := HK7n
    clear HK7n
    go_wp2_with (first
      | (go_at_call 64; (with_reducible refine Calls.mono WD7.out ?_); rintro e w8 ⟨p8, c8, rfl, hO8, hb8⟩; obtain ⟨_, _, er8, HA8, -⟩ := hO8.hd (List.length_map _); cases er8; have A8 := Lib.hid HA8; have HK8 := Lib.hid (bstep (Nat.le_refl _) HK7.out hb8); have HB8 := Lib.hid hb8; obtain ⟨-, -, -, -, q6, q8, -⟩ := KT.out _ HK8.out; clear hO8 hb8 HA8)
      | (at_builtin; (refine OwnR.appendAll el_str rfl (.tmp 31) (.tmp 32) rfl w8.heap.size (.slice (some ⟨w8.heap.size, 0, none⟩) 1 1) [bs wIf] (TW.map bs) p8 c8 TW.length (List.length_map _) (row_own w8 9 [bs wIf] rfl (by omega) (Nat.le_refl _)) (A8.out.2.1.below ((Below.refl _ _).alloc (Nat.le_refl _) _)) A8.out.2.2.1 rfl (by first | rfl | simp [Act.eval, Act.put]) (by simp) (by have := TL.out; show 1 + _ < _; omega) (by decide) ?_); intro v9 w9 hO9 hap9; obtain ⟨p9, c9, rfl, hA9, hP9⟩ := hO9.hd (show ([bs wIf] ++ TW.map bs).length = 1 + TW.length by simp [Nat.add_comm]); have HB9 := Lib.hid (((Below.refl w8.heap.size w8).alloc (Nat.le_refl _) (.cells #[.string ⟨#[105, 102]⟩] 9)).trans hap9.below); have B19 := Lib.hid (bstep (Nat.le_refl _) HK8.out HB9.out); have r1 := KT.out _ (B19.out.alloc B19.out.size (.cells #[.slice pH 5 cH, .slice p9 (1 + TW.length) c9] 56)); obtain ⟨-, -, -, -, r6, r8, -⟩ := r1; have L0 := Lib.hid (LB.two (w := W1) B19.out ((HYH.out.below HB8.out).below HB9.out) hA9 (fun a e => ⟨(HPH.out a e).1, Nat.lt_of_lt_of_le (HPH.out a e).2 (Nat.le_trans HB8.out.size HB9.out.size)⟩) (fun a e => ⟨Nat.le_trans HK8.out.size (hP9 a e).1, (hP9 a e).2⟩)); clear hO9 hap9 hA9 hP9 q6 q8)
      | fail)
    go_loopw [6, 38] (fun v i wr => ∃ (k : Nat) (H : List Hd), k ≤ br.length ∧ i = .int .i64 k ∧ LB W1 wr v (bw (AR k)) H) (fun _ i _ => br.length - (intOf i).toNat)
    case atStart => exact ⟨0, _, Nat.zero_le _, rfl, by rw [HR0.out, EBASE.out]; exact L0.out⟩
    case round =>
      obtain ⟨wo, rfl⟩ : ∃ wo : World, wo = wr := ⟨_, rfl⟩
      obtain ⟨k, R, hk, rfl, hB⟩ := hrel
      have hk0 : (0 : Int) ≤ (k : Int) := Int.natCast_nonneg _
      have HBW := Lib.hid (bstep (Nat.le_refl _) HW1.out hB.below)
      have hRl : R.length ≤ 8 := by have h1 := hB.hl; have h2 := HRL.out k; omega
      clear k2 k3 k4 k5 k6 k8 k9 r6 r8
      by_cases hlt : k < br.length
      · have hk1 : (k : Int) < (br.length : Int) := by omega
        obtain ⟨b, off, x, rfl, hbl, x0, x1, hx⟩ := SBk_at (HBR.out.below HBW.out) hlt
        have HX := Lib.hid (HRS.out k x (by rw [List.getElem?_eq_getElem hlt, hx.out]))
        have hxb := BEA.out x (by rw [← hx.out]; exact List.getElem_mem hlt)
        obtain ⟨up, rate⟩ := x
        simp only at x0 x1 hxb
        have HLB := Lib.hid hB
        have hWB : Below wo.heap.size wo (wo.alloc (.cells #[.int .i64 up, .int .i64 rate] 34)) := (Below.refl _ _).alloc (Nat.le_refl _) _
        have KD := Lib.hid (fun (n : Int) (W : World) (hb : Below (wo.heap.size + 1) (wo.alloc (.cells #[.int .i64 up, .int .i64 rate] 34)) W) (h0 : 0 ≤ n) (h1 : n ≤ 268435456) => DE.out n W (bstep (Nat.le_refl _) HBW.out (hWB.trans (hb.mono (Nat.le_succ _)))) (by omega) (by omega))
        have KX := Lib.hid (fun (W : World) (hb : Below (wo.heap.size + 1) (wo.alloc (.cells #[.int .i64 up, .int .i64 rate] 34)) W) => show W.cell? ⟨wo.heap.size, 0, none⟩ = some (.int .i64 up) ∧ W.cell? ⟨wo.heap.size, 1, none⟩ = some (.int .i64 rate) from
          ⟨(hb.cell (p := ⟨wo.heap.size, 0, none⟩) (Nat.lt_succ_self _)).trans (World.cell?_alloc_new _ _ _ _), (hb.cell (p := ⟨wo.heap.size, 1, none⟩) (Nat.lt_succ_self _)).trans (World.cell?_alloc_new _ _ _ _)⟩)
        have HWB := Lib.hid hWB
        have hsz0 : W1.heap.size ≤ wo.heap.size := hB.below.size
        have K0 : Below (wo.heap.size + 1) (wo.alloc (.cells #[.int .i64 up, .int .i64 rate] 34)) (wo.alloc (.cells #[.int .i64 up, .int .i64 rate] 34)) := Below.refl _ _
        have K0d : Below (wo.heap.size + 1) (wo.alloc (.cells #[.int .i64 up, .int .i64 rate] 34)) (wo.alloc (.cells #[.int .i64 up, .int .i64 rate] 34)).drew := K0.drew
        obtain ⟨u0, u1, u2, u3⟩ := hxb
        have u4 : rate ≤ 268435456 := by omega
        have U0 := Lib.hid u0
        have U1 := Lib.hid u1
        have U2 := Lib.hid u2
        have U4 := Lib.hid u4
        clear hB hWB u0 u1 u2 u3 u4 hx
        go_wp2_with fail
        clear x0 x1 hbl
        go_region_held3 (fun W => W.cell? ⟨wo.heap.size, 0, none⟩ = some (.int .i64 up) ∧ W.cell? ⟨wo.heap.size, 1, none⟩ = some (.int .i64 rate))
          (first | exact KX.out _ K0 | exact KX.out _ K0d | exact KX.out _ K5 | exact KX.out _ K6 | exact KX.out _ (K6.alloc (bl1 K6) _) | exact KX.out _ K8 | exact ⟨(C7 0).trans (KX.out _ K8).1, (C7 1).trans (KX.out _ K8).2⟩ | fail)
          (first
            | (go_at_call 63; (with_reducible refine Calls.mono (KD.out up _ (by first | exact K0d | exact K0) U0.out U1.out) ?_); rintro e wa ⟨rfl, hba⟩; have K5 : Below (wo.heap.size + 1) (wo.alloc (.cells #[.int .i64 up, .int .i64 rate] 34)) wa := (by first | exact K0d.trans (hba.mono (by simp)) | exact K0.trans (hba.mono (by simp))))
            | (go_at_call 63; (with_reducible refine Calls.mono (KD.out rate _ K5 U2.out U4.out) ?_); rintro e wb ⟨rfl, hbb⟩; have K6 : Below (wo.heap.size + 1) (wo.alloc (.cells #[.int .i64 up, .int .i64 rate] 34)) wb := K5.trans (hbb.mono (bl1 K5)); have K8 : Below (wo.heap.size + 1) (wo.alloc (.cells #[.int .i64 up, .int .i64 rate] 34)) ((wb.alloc (.cells #[.string ⟨#[114, 97, 116, 101]⟩, .string ⟨(Lib.itoa up).toArray⟩, .string ⟨(Lib.itoa rate).toArray⟩] 9)).alloc (.cells #[.slice (some ⟨wb.heap.size, 0, none⟩) 3 3] 56)) := (K6.alloc (bl1 K6) _).alloc (Nat.le_succ_of_le (bl1 K6) |> fun h => by rw [World.size_alloc]; exact h) _; have A8x := HWB.out.trans (K8.mono (Nat.le_succ _)); have Y8 := row_hd (row_at wb [bs wRate, bs (Lib.itoa up), bs (Lib.itoa rate)] (n := 3) rfl (by omega)))
            | (refine OwnR.stepAp el_row (by rfl) (.tmp 42) (.tmp 50) (by rfl) W1.heap.size _ R [(⟨some ⟨wb.heap.size, 0, none⟩, 3, 3⟩ : Hd)] (some ⟨wb.heap.size + 1, 0, none⟩) 1 1 rfl (HLB.out.own.below A8x) Y8.1 (fun h => by cases h) (by rfl) (by rfl) (Nat.le_trans hsz0 A8x.size) (by omega) (by decide) ?_; intro v7 w7 hO7 hap7; have C7 := hap7.cells (b := wo.heap.size) (Nat.lt_of_lt_of_le (Nat.lt_succ_self _) (bl1 K8)) (HLB.out.own.away (Nat.le_refl _))) | fail)
        have LN := Lib.hid (HLB.out.add A8x [bs wRate, bs (Lib.itoa up), bs (Lib.itoa rate)] ⟨some ⟨wb.heap.size, 0, none⟩, 3, 3⟩ Y8.2 (fun a e => by cases e; have := bl1 K6; simp; omega) (Nat.le_refl _) hO7 hap7)
        go_wp2
        go_roundw
        case rel => exact ⟨k + 1, _, by omega, by go_num, by rw [HX.out]; exact LN.out⟩
        case measure => simp [intOf]; omega
      · obtain rfl : k = br.length := by omega
        have HLB := Lib.hid hB
        clear hB
        go_wp2
        go_loopw [6, 53] (fun v i wr => ∃ (k : Nat) (H : List Hd), k ≤ 16 ∧ i = .int .i64 k ∧ LB W1 wr v (bw (AN k)) H) (fun _ i _ => 16 - (intOf i).toNat)
        case atStart => exact ⟨0, _, Nat.zero_le _, rfl, by rw [HN0.out]; exact HLB.out⟩
        case round =>
          obtain ⟨wi, rfl⟩ : ∃ wi : World, wi = wr := ⟨_, rfl⟩
          obtain ⟨n, M, hn, rfl, hM⟩ := hrel
          have HMB := Lib.hid hM
          have HBI := Lib.hid (bstep (Nat.le_refl _) HW1.out hM.below)
          have hMl : M.length ≤ 24 := by have h1 := hM.hl; have h2 := HN.out n hn; omega
          obtain ⟨-, -, -, -, -, g8, -⟩ := KT.out _ hM.below
          have hsz0 : W1.heap.size ≤ wi.heap.size := hM.below.size
          obtain ⟨i, ei⟩ : ∃ i : Int, (n : Int) = i := ⟨_, rfl⟩
          have EI := Lib.hid ei
          have hi0 : (0 : Int) ≤ i := by omega
          rw [ei]
          clear hM
          by_cases hlt2 : n < 16
          · have hi1 : i < 16 := by omega
            have hi2 : i ≤ 15 := by omega
            cases eb : bitB ex i
            · have EB : (bits BinOp.and IntKind.i64 (ex / 2 ^ i.toNat) 1 == 1) = false := by rw [bit_one, eb]
              have HM2 := Lib.hid (show LB W1 wi _ (bw (AN (n + 1))) M from by rw [HNN.out n (by rw [EI.out]; exact eb)]; exact HMB.out)
              clear eb ei
              go_wp2
              go_roundw
              case rel => exact ⟨n + 1, M, by omega, by rw [← EI.out]; go_num, HM2.out⟩
              case measure => rw [← EI.out]; simp [intOf]; omega
            · have EB : (bits BinOp.and IntKind.i64 (ex / 2 ^ i.toNat) 1 == 1) = true := by rw [bit_one, eb]
              have HX := Lib.hid (HNY.out n (by rw [EI.out]; exact eb))
              have DI := Lib.hid (DE.out i wi HBI.out (by omega) (by omega))
              clear eb ei
              go_wp2_with (first
                | (go_at_call 63; (with_reducible refine Calls.mono DI.out ?_); rintro e wa ⟨rfl, hba⟩; have HBA := Lib.hid hba; have Y8 := Lib.hid (row_hd (row_at wa [bs wNot, bs (Lib.itoa i)] (n := 2) rfl (by omega))); have A8x := Lib.hid ((hba.alloc hba.size (.cells #[.string ⟨#[110, 111, 116]⟩, .string ⟨(Lib.itoa i).toArray⟩] 9)).alloc (by have := hba.size; rw [World.size_alloc]; omega) (.cells #[.slice (some ⟨wa.heap.size, 0, none⟩) 2 2] 56)); clear hba)
                | (at_builtin; (refine OwnR.appendAll el_row rfl (.tmp 62) (.tmp 66) rfl W1.heap.size _ M [(⟨some ⟨wa.heap.size, 0, none⟩, 2, 2⟩ : Hd)] (some ⟨wa.heap.size + 1, 0, none⟩) 1 1 rfl (HMB.out.own.below A8x.out) Y8.out.1 (fun h => by cases h) rfl (by first | rfl | simp [Act.eval, Act.put]) (Nat.le_trans hsz0 A8x.out.size) (by omega) (by decide) ?_); intro v7 w7 hO7 hap7; have LN := Lib.hid (HMB.out.add A8x.out [bs wNot, bs (Lib.itoa i)] ⟨some ⟨wa.heap.size, 0, none⟩, 2, 2⟩ Y8.out.2 (fun a e => by cases e; have := HBA.out.size; simp; omega) (Nat.le_refl _) hO7 hap7); clear hO7 hap7)
                | fail)
              go_roundw
              case rel => exact ⟨n + 1, _, by omega, by rw [← EI.out]; go_num, by rw [HX.out, EI.out]; exact LN.out⟩
              case measure => rw [← EI.out]; simp [intOf]; omega
          · obtain rfl : n = 16 := by omega
            have hi1 : i = 16 := ei.symm
            clear ei
            subst hi1
            go_wp2
            go_ret
            exact ⟨_, M, rfl, by rw [← HNA.out]; exact HMB.out.elder HW1.out⟩

end Go.Proofs.YtflcdkibjakciaaGreatDoor
