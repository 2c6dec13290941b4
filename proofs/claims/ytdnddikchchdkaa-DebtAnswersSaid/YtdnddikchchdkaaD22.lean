/-
  THE WALK over ref39.Offset where nothing is wrong.
-/
import Derived.Test.YtdnddikchchdkaaD16
import Derived.Test.YtdnddikchchdkaaD20
namespace Go.Proofs.Ytdnddikchchdkaa
open Go.RowKit

theorem nz_of_pos {L : List De.Dbt} (h : ∀ d ∈ L, 1 ≤ d.left) : De.nz L = L := by
  unfold De.nz
  rw [List.filter_eq_self]
  intro d hd
  have := h d hd
  simp; omega

theorem nz_drop {M : List De.Dbt} (hf : De.Fine M) {k : Nat} (hk : k < M.length) : De.nz (De.upd M (De.g M k).num 0) = M.take k ++ M.drop (k + 1) := by
  rw [← De.set_upd hf.asc hk, List.set_eq_take_append_cons_drop, if_pos hk]
  unfold De.nz
  rw [List.filter_append, List.filter_cons, if_neg (by simp)]
  have h1 := nz_of_pos (L := M.take k) fun d hd => hf.pos d (List.mem_of_mem_take hd)
  have h2 := nz_of_pos (L := M.drop (k + 1)) fun d hd => hf.pos d (List.mem_of_mem_drop hd)
  unfold De.nz at h1 h2
  rw [h1, h2]

theorem nz_keep {M : List De.Dbt} (hf : De.Fine M) {k : Nat} (hk : k < M.length) {x : Int} (hx : 1 ≤ x) : De.nz (De.upd M (De.g M k).num x) = M.set k { De.g M k with left := x } := by
  rw [← De.set_upd hf.asc hk]
  refine nz_of_pos fun d hd => ?_
  rcases List.mem_or_eq_of_mem_set hd with hd | rfl
  · exact hf.pos d hd
  · exact hx

theorem set_cut {M : List De.Dbt} {k : Nat} (_hk : k < M.length) (d : De.Dbt) : (M.set k d).take k ++ (M.set k d).drop (k + 1) = M.take k ++ M.drop (k + 1) := by
  rw [List.take_set_of_le (Nat.le_refl _), List.drop_set_of_lt (Nat.lt_succ_self _)]

theorem BoxA.setSl {w : World} {b : Nat} {farm : Int} {p : Option Addr} {n c : Nat} {next : Int} (h : BoxA w b farm p n c next) (p' : Option Addr) (n' c' : Nat) : BoxA (w.setCell ⟨b, 1, none⟩ (.slice p' n' c')) b farm p' n' c' next :=
  ⟨by rw [World.cell?_setCell_other _ _ _ _ (by simp)]; exact h.a0, World.cell?_setCell_same _ _ _ h.a1, by rw [World.cell?_setCell_other _ _ _ _ (by simp)]; exact h.a2, by rw [World.frozen?_setCell]; exact h.f0, by rw [World.frozen?_setCell]; exact h.f1, by rw [World.frozen?_setCell]; exact h.f2, by simpa [World.setCell] using h.lt⟩

structure OSt (w wr : World) (farm next : Int) (pm : Option Addr) (cm ob B : Nat) (L M : List De.Dbt) (day a0 amt : Int) : Prop where
  own : OwnR SD wr 49 B (.slice pm M.length cm) M
  box : BoxA wr ob farm pm M.length cm next
  res : BoxA wr (w.heap.size + 1) 0 none 0 0 0
  ne : (Value.slice pm M.length cm).ownBlock ≠ some ob
  below : Below w.heap.size w wr
  size : B ≤ wr.heap.size
  fine : De.Fine M
  bd : ∀ d ∈ M, d.left ≤ 68719476736
  len : M.length ≤ 40
  off : ∀ L' r, De.Off day M amt L' r → De.Off day L a0 L' r

set_option maxRecDepth 100000 in
set_option maxHeartbeats 8000000 in
theorem refoffset39_ok (farm next : Int) (p : Option Addr) (L : List De.Dbt) (cap : Nat) (day amount : Int) (w : World) (h : Debts w p L) (hc : p = none → cap = 0) (hR : De.Right farm L next) (hd : De.dayB day = true) (m0 : 0 ≤ amount) (m1 : amount ≤ 68719476736) :
    Calls Try.prog 39 #[accV farm p L.length cap next, .int .i64 day, .int .i64 amount] w (OGive w farm p L next day amount) := by
  have hn := h.len
  have hl40 := hR.len
  obtain ⟨g3, g4⟩ := De.dayB_iff.1 hd
  have hb1 : Below w.heap.size w ((w.alloc (Obj.cells #[.int .i64 farm, .slice p L.length cap, .int .i64 next] 42)).alloc (Obj.cells #[.int .i64 0, .slice none 0 0, .int .i64 0] 42)) := ((Below.refl w.heap.size w).alloc (Nat.le_refl _) _).alloc (by simp) _
  have B1 := Lib.hid hb1
  have h1 := h.below hb1
  have ck := fun (W : World) (hW : Debts W p L) => refcheck39_any farm next p L cap W hW
  rw [De.chk_ok hR] at ck
  have CK := Lib.hid ck
  have CP := Lib.hid (fun W (hW : Debts W p L) => copied39_any farm next p L cap W hW hc (by omega))
  have H1 := Lib.hid h1
  have hbx : BoxA ((w.alloc (Obj.cells #[.int .i64 farm, .slice p L.length cap, .int .i64 next] 42)).alloc (Obj.cells #[.int .i64 0, .slice none 0 0, .int .i64 0] 42)) w.heap.size farm p L.length cap next := (BoxA.new w farm p L.length cap next 42).below ((Below.refl _ _).alloc (Nat.le_refl _) _) (by simp)
  have hrx : BoxA ((w.alloc (Obj.cells #[.int .i64 farm, .slice p L.length cap, .int .i64 next] 42)).alloc (Obj.cells #[.int .i64 0, .slice none 0 0, .int .i64 0] 42)) (w.heap.size + 1) 0 none 0 0 0 := by
    have := BoxA.new (w.alloc (Obj.cells #[.int .i64 farm, .slice p L.length cap, .int .i64 next] 42)) 0 none 0 0 0 42
    rw [World.size_alloc] at this
    exact this
  have BX := Lib.hid hbx
  have RX := Lib.hid hrx
  have R := Lib.hid hR
  unfold accV at CK CP
  unfold OGive accV
  clear h hc h1 hb1 hbx hrx ck hR hd
  go_enter Try.func39, Try.ntmps39
  go_wp2_with (first | (go_at_call 36; refine Calls.mono (CK.out _ H1.out) ?_; rintro e w2 ⟨rfl, hb2⟩; have BX2 := Lib.hid (BX.out.below hb2 BX.out.lt); have RX2 := Lib.hid (RX.out.below hb2 RX.out.lt); have H2 := Lib.hid (H1.out.below hb2); have BB2 := Lib.hid (B1.out.trans (hb2.mono (by simp <;> omega))); obtain ⟨b0, b1, b2, -, -, -, blt⟩ := BX2.out) | (go_at_call 72; refine Calls.mono (CP.out _ H2.out) ?_; rintro e w4 ⟨p1, c1, rfl, hO1, hb4⟩; unfold accV))
  have hs4 := hb4.size
  have hw2 : w.heap.size + 1 < w2.heap.size := RX2.out.lt
  have hba := (Below.refl w4.heap.size w4).alloc (Nat.le_refl _) (Obj.cells #[.int .i64 farm, .slice p1 L.length c1, .int .i64 next] 42)
  have ST := Lib.hid (show OSt w (w4.alloc (Obj.cells #[.int .i64 farm, .slice p1 L.length c1, .int .i64 next] 42)) farm next p1 c1 w4.heap.size w2.heap.size L L day amount amount from
    ⟨hO1.below hba, BoxA.new w4 farm p1 L.length c1 next _, (RX2.out.below hb4 RX2.out.lt).below hba (by have := RX2.out.lt; omega), fun e => by have := (hO1.lt e).2; omega, balloc (Nat.le_refl _) (bstep (Nat.le_refl _) BB2.out hb4) _, by simp; omega, R.out.fine, fun d hd => by have := (R.out.each d hd).2.2; unfold De.good at this; omega, hl40, fun _ _ h => h⟩)
  clear hO1 hb4 hb2 hba BX2 H2 BB2 RX2 b0 b1 b2 blt BX RX H1 B1 CK CP
  go_loopw [2] (fun a wr => ∃ (M : List De.Dbt) (amt : Int) (pm : Option Addr) (cm : Nat), a = .int .i64 amt ∧ 0 ≤ amt ∧ amt ≤ amount ∧ OSt w wr farm next pm cm w4.heap.size w2.heap.size L M day amount amt) (fun a _ => (intOf a).toNat)
  case atStart => exact ⟨L, amount, p1, c1, rfl, m0, Int.le_refl _, ST.out⟩
  case round =>
    clear ST
    obtain ⟨M, amt, pm, cm, rfl, x0, x1, hS⟩ := hrel
    have SS := Lib.hid hS
    obtain ⟨o0, o1, o2, og0, og1, og2, olt⟩ := hS.box
    clear hS
    by_cases hz : 0 < amt
    · obtain ⟨pq, cq, eq, hnil, -, hMc, hcm, hrec⟩ := SS.out.own.cut rfl
      cases eq
      have F1 := Lib.hid (fun (W : World) (hW : Debts W pm M) => first39_any pm M cm day W hW)
      go_wp2_with fail
      go_at_call 73
      refine Calls.mono (F1.out _ hrec) ?_
      rintro e w5 ⟨i, rfl, hi, hb5⟩
      have ne5 := SS.out.ne
      have O5 := Lib.hid (SS.out.own.below hb5)
      have X5 := Lib.hid (SS.out.box.below hb5 SS.out.box.lt)
      have R5 := Lib.hid (SS.out.res.below hb5 SS.out.res.lt)
      have B5 := Lib.hid (bstep (Nat.le_refl _) SS.out.below hb5)
      have hs5 := hb5.size
      have hsz := SS.out.size
      have REC5 := Lib.hid (hrec.below hb5)
      clear o0 o1 o2 og0 og1 og2 olt hrec hb5
      obtain ⟨o0, o1, o2, og0, og1, og2, olt⟩ := X5.out
      rcases hi with ⟨rfl, hall⟩ | ⟨k0, rfl, hk0, hk1, -⟩
      · obtain ⟨r0, r1, r2, rg0, rg1, rg2, rlt⟩ := R5.out
        have OFF := Lib.hid (SS.out.off _ _ (.done (.inr fun e he => by
          obtain ⟨j, hj, rfl⟩ := De.mem_g he
          exact hall j hj)))
        clear hall
        go_wp2
        obtain ⟨pz, cz, ez, hzz⟩ := ((O5.out.setTo (w.heap.size + 1) (by omega) (.int .i64 farm) (.slice pm M.length cm) (.int .i64 next)).mono (B' := w.heap.size) (by omega)).lies (p0 := p) (bsetTo B5.out (w.heap.size + 1) (by omega) (.int .i64 farm) (.slice pm M.length cm) (.int .i64 next))
        cases ez
        exact bodyPost_ret (v := .tuple #[.agg #[.int .i64 farm, .slice pm M.length cm, .int .i64 next], .int .i64 amt, .int .i64 0]) (by simp [results, Try.results39, go_sem, r0, r1, r2]) rfl ⟨_, _, _, _, rfl, OFF.out, hzz⟩
      · have hk00 : (0 : Int) ≤ (k0 : Int) := Int.natCast_nonneg _
        go_wp2_with fail
        go_at_call 73
        refine Calls.mono (F1.out _ REC5.out) ?_
        rintro e w6 ⟨i2, rfl, hi2, hb6⟩
        obtain ⟨k, rfl⟩ : ∃ k : Nat, i2 = k := by
          rcases hi2 with ⟨_, hall⟩ | ⟨k, e, _⟩
          · have := hall k0 hk0; omega
          · exact ⟨k, e⟩
        obtain ⟨hk, hleast⟩ := fFrom.least SS.out.fine.asc hi2
        have O6 := Lib.hid (O5.out.below hb6)
        have X6 := Lib.hid (X5.out.below hb6 X5.out.lt)
        have R6 := Lib.hid (R5.out.below hb6 R5.out.lt)
        have B6 := Lib.hid (bstep (Nat.le_refl _) B5.out hb6)
        have hs6 := hb6.size
        clear o0 o1 o2 og0 og1 og2 olt hi2 hb6 X5 R5 B5 O5 REC5 hk0 hk1 hk00
        obtain ⟨o0, o1, o2, og0, og1, og2, olt⟩ := X6.out
        obtain ⟨g, eg, -, hBg, hgl, hD, hfz, hput⟩ := SD_put O6.out hk
        subst eg
        have hlf := SS.out.fine.pos _ (De.g_mem hk)
        have hlb := SS.out.bd _ (De.g_mem hk)
        obtain ⟨d, hd⟩ : ∃ d, De.g M k = d := ⟨_, rfl⟩
        rw [hd] at hD hlf hlb hleast
        have Dd := Lib.hid hd
        have LE := Lib.hid hleast
        obtain ⟨c0, c1', c2, c3, c4⟩ := hD
        have f4 := hfz (k * 5 + 4)
        have hkk0 : (0 : Int) ≤ (k : Int) := Int.natCast_nonneg _
        have hkk1 : (k : Int) < (M.length : Int) := by omega
        have hgo : g ≠ w4.heap.size := fun e => ne5 (by rw [e]; rfl)
        have hgo2 : w4.heap.size ≠ g := fun e => hgo e.symm
        have hgr : g ≠ w.heap.size + 1 := by omega
        have hgr2 : w.heap.size + 1 ≠ g := by omega
        have hset : ∀ x : Int, OwnR SD (w6.setCell ⟨g, k * 5 + 4, none⟩ (.int .i64 x)) 49 w2.heap.size (.slice (some ⟨g, 0, none⟩) M.length cm) (M.set k { d with left := x }) := fun x => by
          obtain ⟨g', e, -, -, -, -, -, hs⟩ := O6.out.at hk
          cases e
          refine hs 4 (.int .i64 x) _ (by decide) ?_
          rw [← De.g_eq hk, Dd.out]
          rfl
        have HSET := Lib.hid hset
        clear hd hleast hfz hput hset
        by_cases hle : amt < d.left
        · have hmin : min amt d.left = amt := by omega
          have HM := Lib.hid hmin
          have hB : ((d.left - min amt d.left) == 0) = false := beq_eq_false_iff_ne.2 (by omega)
          clear hmin
          go_wp2
          have SN := Lib.hid (show OSt w (w6.setCell ⟨g, k * 5 + 4, none⟩ (.int .i64 (d.left - min amt d.left))) farm next (some ⟨g, 0, none⟩) cm w4.heap.size w2.heap.size L (M.set k { d with left := d.left - min amt d.left }) day amount (amt - min amt d.left) from
            ⟨by rw [List.length_set]; exact HSET.out _, by rw [List.length_set]; exact X6.out.other hgo _, R6.out.other hgr _, by rw [List.length_set]; exact ne5, B6.out.setCell (by show w.heap.size ≤ g; omega) _, by simp [World.setCell]; omega, by
              have := SS.out.fine.step (n := d.num) (x := d.left - min amt d.left) (by omega)
              rw [← Dd.out, nz_keep SS.out.fine hk (by rw [Dd.out]; omega)] at this
              rw [Dd.out] at this
              exact this, fun e he => by
              rcases List.mem_or_eq_of_mem_set he with he | rfl
              · exact SS.out.bd e he
              · show d.left - min amt d.left ≤ _; omega, by rw [List.length_set]; exact SS.out.len, fun L' r ho => SS.out.off _ _ (.step LE.out hz (by
              have := nz_keep SS.out.fine hk (x := d.left - min amt d.left) (by omega)
              rw [Dd.out] at this
              rw [this]; exact ho))⟩)
          have hml : (M.set k { d with left := d.left - min amt d.left }).length = M.length := List.length_set
          go_roundw
          case rel => exact ⟨_, _, _, _, rfl, by omega, by omega, SN.out⟩
          case measure => simp [intOf]; omega
        · have hmin : min amt d.left = d.left := by omega
          have hz0 : d.left - min amt d.left = 0 := by omega
          have HZ := Lib.hid hz0
          have hB : ((d.left - min amt d.left) == 0) = true := beq_iff_eq.2 hz0
          have hmn : 1 ≤ min amt d.left ∧ min amt d.left ≤ amt := by omega
          clear hmin hz0
          have hrec7 : Debts (w6.setCell ⟨g, k * 5 + 4, none⟩ (.int .i64 (d.left - min amt d.left))) (some ⟨g, 0, none⟩) (M.set k { d with left := d.left - min amt d.left }) := by
            obtain ⟨p', c', e, -, -, -, -, hr⟩ := (HSET.out (d.left - min amt d.left)).cut (n := M.length) List.length_set
            cases e
            exact hr
          have dr := drop39_any (some ⟨g, 0, none⟩) (M.set k { d with left := d.left - min amt d.left }) cm k _ hrec7 (fun h => by cases h) (by rw [List.length_set]; exact hk) (by rw [List.length_set]; exact hMc) hcm (by rw [List.length_set]; have := SS.out.len; omega)
          rw [set_cut hk, List.length_set] at dr
          have DR := Lib.hid dr
          have X7 := Lib.hid (X6.out.other (g := g) (i := k * 5 + 4) hgo (.int .i64 (d.left - min amt d.left)))
          have R7 := Lib.hid (R6.out.other (g := g) (i := k * 5 + 4) hgr (.int .i64 (d.left - min amt d.left)))
          have B7 := Lib.hid (B6.out.setCell (p := ⟨g, k * 5 + 4, none⟩) (by show w.heap.size ≤ g; omega) (.int .i64 (d.left - min amt d.left)))
          clear dr hrec7
          go_wp2_with fail
          go_at_call 74
          refine Calls.mono DR.out ?_
          rintro e w8 ⟨p8, c8, rfl, hO8, hb8⟩
          have hs8 : w6.heap.size ≤ w8.heap.size := by have := hb8.size; simpa [World.setCell] using this
          have X8 := Lib.hid (X7.out.below hb8 X7.out.lt)
          have R8 := Lib.hid (R7.out.below hb8 R7.out.lt)
          have B8 := Lib.hid (bstep (Nat.le_refl _) B7.out hb8)
          have hne8 : (Value.slice p8 (M.take k ++ M.drop (k + 1)).length c8).ownBlock ≠ some w4.heap.size := hO8.notBlock (by simp [World.setCell]; omega)
          have hol : w4.heap.size < w6.heap.size := olt
          have hM' : De.nz (De.upd M d.num (d.left - min amt d.left)) = M.take k ++ M.drop (k + 1) := by
            have := nz_drop SS.out.fine hk
            rw [Dd.out] at this
            rw [HZ.out]; exact this
          have SN := Lib.hid (show OSt w (w8.setCell ⟨w4.heap.size, 1, none⟩ (.slice p8 (M.take k ++ M.drop (k + 1)).length c8)) farm next p8 c8 w4.heap.size w2.heap.size L (M.take k ++ M.drop (k + 1)) day amount (amt - min amt d.left) from
            ⟨(hO8.setOther hne8 _).mono (by simp [World.setCell]; omega), X8.out.setSl _ _ _, R8.out.other (by omega) _, hne8, B8.out.setCell (by show w.heap.size ≤ w4.heap.size; omega) _, by simp [World.setCell]; omega, by
              have := SS.out.fine.step (n := d.num) (x := d.left - min amt d.left) (by omega)
              rw [hM'] at this
              exact this, fun e he => by
              rcases List.mem_append.1 he with he | he
              · exact SS.out.bd e (List.mem_of_mem_take he)
              · exact SS.out.bd e (List.mem_of_mem_drop he), by
              have := SS.out.len
              rw [List.length_append, List.length_take, List.length_drop]; omega, fun L' r ho => SS.out.off _ _ (.step LE.out hz (by rw [hM']; exact ho))⟩)
          clear o0 o1 o2 og0 og1 og2 olt hM' hne8 hO8 hb8 c0 c1' c2 c3 c4 f4
          obtain ⟨o0, o1, o2, og0, og1, og2, olt⟩ := X8.out
          go_wp2
          go_roundw
          case rel => exact ⟨_, _, _, _, rfl, by omega, by omega, by first | exact SN.out | (have := SN.out; simpa using this)⟩
          case measure => simp [intOf]; omega
    · obtain rfl : amt = 0 := by omega
      obtain ⟨r0, r1, r2, rg0, rg1, rg2, rlt⟩ := SS.out.res
      have OFF := Lib.hid (SS.out.off _ _ (.done (.inl rfl)))
      have hsz := SS.out.size
      go_wp2
      obtain ⟨pz, cz, ez, hzz⟩ := ((SS.out.own.setTo (w.heap.size + 1) (by omega) (.int .i64 farm) (.slice pm M.length cm) (.int .i64 next)).mono (B' := w.heap.size) (by omega)).lies (p0 := p) (bsetTo SS.out.below (w.heap.size + 1) (by omega) (.int .i64 farm) (.slice pm M.length cm) (.int .i64 next))
      cases ez
      exact bodyPost_ret (v := .tuple #[.agg #[.int .i64 farm, .slice pm M.length cm, .int .i64 next], .int .i64 0, .int .i64 0]) (by simp [results, Try.results39, go_sem, r0, r1, r2]) rfl ⟨_, _, _, _, rfl, OFF.out, hzz⟩

end Go.Proofs.Ytdnddikchchdkaa
