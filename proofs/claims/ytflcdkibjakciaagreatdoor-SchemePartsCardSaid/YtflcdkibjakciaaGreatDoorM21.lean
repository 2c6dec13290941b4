/-
  MERGED (mergek.py): the texts T31, T13.
-/
import Derived.Test.YtflcdkibjakciaaGreatDoorM17
import Derived.Test.YtflcdkibjakciaaGreatDoorT30
import Derived.Test.YtflcdkibjakciaaGreatDoorM12

namespace Go.Proofs.YtflcdkibjakciaaGreatDoor
open Go.RowKit Te Sc

/-- The text of a right law; none of another one. -/
def prT17 (L : List Sch) : List UInt8 := if (chk17 L).2 = 0 then Wo.jText (linesL L) else []
def PrintG17 (L : List Sch) (w : World) (e : Ending) (w' : World) : Prop := e = .returned (.tuple #[.string ⟨(prT17 L).toArray⟩, .int .i64 (chk17 L).2]) ∧ Below w.heap.size w w'

theorem print17_bad {L : List Sch} {er : Int} (h : (chk17 L).2 = er) (hne : er ≠ 0) (w w' : World) (hb : Below w.heap.size w w') : PrintG17 L w (.returned (.tuple #[.string ⟨#[]⟩, .int .i64 er])) w' :=
  ⟨by unfold prT17; rw [if_neg (by rw [h]; exact hne), h], hb⟩

theorem lb_bw (LL : List (List (List UInt8))) : lb (bw LL) = LL := by
  unfold lb bw
  rw [List.map_map]
  have : ∀ ws ∈ LL, ((fun ws : List ByteArray => ws.map (·.data.toList)) ∘ fun ws : List (List UInt8) => ws.map bs) ws = ws := by
    intro ws _
    show (ws.map bs).map (·.data.toList) = ws
    rw [List.map_map]
    have h2 : ∀ x ∈ ws, ((fun x : ByteArray => x.data.toList) ∘ bs) x = x := fun x _ => rfl
    rw [List.map_congr_left h2, List.map_id']
  rw [List.map_congr_left this, List.map_id']

/-- A right law's schemes. -/
theorem chk_each {L : List Sch} (h : (chk17 L).2 = 0) : ∀ s ∈ L, one17 s = 0 := by
  obtain ⟨-, -, hA, -⟩ := chk_fine h
  intro s hs
  obtain ⟨k, hk, rfl⟩ := List.mem_iff_getElem.1 hs
  by_cases h1 : one17 L[k] = 0
  · exact h1
  · have := hA k hk
    rw [errA_one hk h1] at this
    exact this

theorem linesL_succ {L : List Sch} {k : Nat} (hk : k < L.length) : bw (linesL (L.take (k + 1))) = bw (linesL (L.take k)) ++ bw (linesS L[k]) := by
  rw [List.take_succ_eq_append_getElem hk, ← bw_append]
  unfold linesL
  rw [List.flatMap_append]
  simp

set_option maxRecDepth 100000 in
set_option maxHeartbeats 4000000 in
theorem print17_any {Q : Nat → Prop} (d : Nat) (p : Option Addr) (L : List Sch) (cap : Nat) (w : World) (h : SsAt Q w d p L) (hz : ∀ s ∈ L, s.nm.size ≤ 9223372036854775807) (hcap : L.length ≤ cap) (hE : Env w) :
    Calls Tryz.prog 13 #[.slice p L.length cap] w (PrintG17 L w) := by
  have hn := h.len
  have CK := Lib.hid (check17_any d p L cap w h hz hcap)
  unfold ChkG at CK
  obtain ⟨⟨ci, er⟩, eer⟩ : ∃ x, chk17 L = x := ⟨_, rfl⟩
  have eer2 : (chk17 L).2 = er := by rw [eer]
  rw [eer] at CK
  by_cases he : er = 0
  rotate_left
  · have HF := Lib.hid (fun (w' : World) (hb : Below w.heap.size w w') => print17_bad eer2 he w w' hb)
    have hne : (er != 0) = true := by simpa using he
    clear h hz he eer eer2 hE
    go_enter Tryz.func13, Tryz.ntmps13
    go_wp2_with (first | (go_at_call 18; (with_reducible refine Calls.mono CK.out ?_); rintro e w1 ⟨rfl, hb1⟩))
    go_ret2
    exact HF.out _ hb1
  subst he
  have HR := Lib.hid (chk_each eer2)
  have H16 := Lib.hid (chk_fine eer2).2.1
  have HEQ := Lib.hid eer2
  have H := Lib.hid h
  have HE := Lib.hid hE
  clear h hz eer eer2 hE
  go_enter Tryz.func13, Tryz.ntmps13
  go_wp2_with (first | (go_at_call 18; (with_reducible refine Calls.mono CK.out ?_); rintro e w1 ⟨rfl, hb1⟩))
  have HB1 := Lib.hid hb1
  clear hb1
  go_loopw [6, 19] (fun v i wr => ∃ (k : Nat) (R : List Hd), k ≤ L.length ∧ i = .int .i64 k ∧ LB w wr v (bw (linesL (L.take k))) R) (fun _ i _ => L.length - (intOf i).toNat)
  case atStart => exact ⟨0, [], Nat.zero_le _, rfl, LB.nil HB1.out⟩
  case round =>
    obtain ⟨wo, rfl⟩ : ∃ wo : World, wo = wr := ⟨_, rfl⟩
    obtain ⟨k, R, hk, rfl, hB⟩ := hrel
    have hk0 : (0 : Int) ≤ (k : Int) := Int.natCast_nonneg _
    by_cases hlt : k < L.length
    · have hk1 : (k : Int) < (L.length : Int) := by omega
      obtain ⟨b, off, r, rfl, hbl, hC, hv⟩ := (H.out.below hB.below).at hlt
      have hone := HR.out _ (List.getElem_mem hlt)
      have HS := Lib.hid (linesL_succ hlt)
      have hWB : Below wo.heap.size wo (wo.alloc (.cells (sCells r).toArray 32)) := (Below.refl _ _).alloc (Nat.le_refl _) _
      have LA := Lib.hid (lines17_any d r L[k] _ (hv.below hWB) hone (HE.out.below (bstep (Nat.le_refl _) hB.below hWB)))
      have hRl : R.length ≤ 384 := by
        have h1 := hB.hl
        rw [bw_len] at h1
        have h2 := (linesL_len (L.take k) (fun s hs => HR.out s (List.mem_of_mem_take hs))).2
        have h3 := H16.out
        rw [List.length_take] at h2
        omega
      have hLl := (linesS_len hone).2
      have HLB := Lib.hid hB
      have HWB := Lib.hid hWB
      have hsz0 : w.heap.size ≤ wo.heap.size := hB.below.size
      obtain ⟨c0, c1, c2, c3, c4, c5, c6, c7, c8, c9⟩ := hC
      obtain ⟨num, nm, ⟨o, tn, tm, tp, tl, tc⟩, bp, bn, bc, least, ex, needs⟩ := r
      simp only at c0 c1 c2 c3 c4 c5 c6 c7 c8 c9
      simp only [sCells] at LA HWB
      obtain ⟨SL, eSL⟩ : ∃ x, linesS L[k] = x := ⟨_, rfl⟩
      rw [eSL] at LA HS hLl
      unfold LinesG at LA
      clear hB hv hWB hone eSL
      go_wp2_with (first
        | (go_at_call 37; (with_reducible refine Calls.mono LA.out ?_); rintro e w5 ⟨v5, M, rfl, hM⟩; obtain ⟨p5, cc5, rfl, hp5, -, hc5, -, hR5⟩ := hM.own.cut (hM.hl.trans (bw_len SL)); have HM := Lib.hid hM; have R5 := Lib.hid hR5; have P5 := Lib.hid (fun e => (hp5 e).1); have hMl : M.length = SL.length := hM.hl.trans (bw_len SL); have A5 := Lib.hid (bstep (Nat.le_refl _) HWB.out hM.below); clear hM hp5 hc5 hR5)
        | (at_builtin; (refine OwnR.appendAll el_row rfl (.tmp 23) (.tmp 25) rfl w.heap.size _ R M p5 cc5 SL.length hMl (HLB.out.own.below A5.out) R5.out P5.out rfl (by first | rfl | simp [Act.eval, Act.put]) (Nat.le_trans hsz0 A5.out.size) (by omega) (by decide) ?_); intro v7 w7 hO7 hap7; have LN := Lib.hid (HLB.out.adds A5.out HM.out.hl HM.out.rows (fun k hk a e => ⟨Nat.le_trans (by simp) (HM.out.apart k hk a e).2.1, (HM.out.apart k hk a e).2.2⟩) (Nat.le_refl _) hO7 hap7); clear hO7 hap7)
        | fail)
      go_roundw
      case rel => exact ⟨k + 1, _, by omega, by go_num, by rw [HS.out]; exact LN.out⟩
      case measure => simp [intOf]; omega
    · obtain rfl : k = L.length := by omega
      rw [List.take_length] at hB
      have HB := Lib.hid hB.below
      obtain ⟨q, cc, rfl, hLn⟩ := hB.lines (bw_len _)
      obtain ⟨p1, p2, p3, p4⟩ := law_back HR.out H16.out
      have hTl := (linesL_len L HR.out).1
      have h16 := H16.out
      have JN := Lib.hid (joinB (bw (linesL L)) q (linesL L).length cc wo (bw_len _) hLn (by rw [lb_bw]; omega) (fun ws hw => by
        obtain ⟨x, hx, rfl⟩ := List.mem_map.1 hw
        rw [List.length_map]
        obtain ⟨s, hs, hx⟩ := List.mem_flatMap.1 hx
        exact lineS_short (HR.out s hs) x hx) (by rw [lb_bw]; exact p1) (by rw [lb_bw, p2]))
      have HF := Lib.hid (fun (S : ByteArray) (w' : World) (hS : S.data.toList = Wo.jText (lb (bw (linesL L)))) (hb : Below wo.heap.size wo w') => show PrintG17 L w (.returned (.tuple #[.string S, .int .i64 0])) w' from ⟨by
        rw [lb_bw] at hS
        have : S = ⟨(prT17 L).toArray⟩ := by unfold prT17; rw [if_pos HEQ.out]; exact Cr.ba_ext (by rw [hS])
        rw [this, HEQ.out], bstep (Nat.le_refl _) HB.out hb⟩)
      clear hB hLn p1 p2 p3 p4 hTl
      go_wp2_with (first | (go_at_call 38; (with_reducible refine Calls.mono JN.out ?_); rintro e w2 ⟨S, hS, rfl, hb2⟩))
      go_ret2
      exact HF.out _ _ hS hb2

end Go.Proofs.YtflcdkibjakciaaGreatDoor

namespace Go.Proofs.YtflcdkibjakciaaGreatDoor
open Go.RowKit Te

/-- What list reads: an opening parenthesis, and terms. -/
def listR (f : Nat) (ws : List (List UInt8)) : Option (List Tm × List (List UInt8)) := match ws with | [] => none | y :: r => if y = [40] then readL f r else none

def TermAtR (f : Nat) : Prop := ∀ (rd : Nat) (ws : List ByteArray) (w : World), RdAt w rd ws false → (∀ W, But rd w W → Env W) → 2 * ws.length ≤ f → Calls Tryz.prog 140 #[.pointer (some ⟨rd, 0, none⟩)] w (TermG rd (readT f (ll ws)) w)
def ListAtR (f : Nat) : Prop := ∀ (rd : Nat) (ws : List ByteArray) (w : World), RdAt w rd ws false → (∀ W, But rd w W → Env W) → 2 * ws.length + 1 ≤ f → Calls Tryz.prog 158 #[.pointer (some ⟨rd, 0, none⟩)] w (ListG rd (listR f (ll ws)) w)

theorem readT_nil (f : Nat) : readT f [] = none := by cases f with | zero => rw [readT] | succ f => rw [readT, Te.stepT.eq_def]
theorem readT_no {f : Nat} {x : ByteArray} {rs : List ByteArray} (h : opOf x.data.toList = 0) : readT (f + 1) (ll (x :: rs)) = none := by
  rw [readT, Te.stepT.eq_def]; simp only [ll, List.map_cons]; rw [if_pos h]
theorem readT_true {f : Nat} {x : ByteArray} {rs : List ByteArray} (h : opOf x.data.toList = 1) : readT (f + 1) (ll (x :: rs)) = some (.mk 1 0 0 [], ll rs) := by
  rw [readT, Te.stepT.eq_def]; simp only [ll, List.map_cons]; rw [h]; simp
theorem readT_num {f : Nat} {x : ByteArray} {rs : List ByteArray} (o : Int) (h : opOf x.data.toList = o) (ho : o = 2 ∨ o = 3 ∨ o = 5 ∨ o = 6 ∨ o = 8) : readT (f + 1) (ll (x :: rs)) = match numM (hdW rs).data.toList with | some v => some (.mk o v 0 [], ll rs.tail) | none => none := by
  rw [readT, Te.stepT.eq_def]; simp only [ll, List.map_cons]; rw [h, if_neg (by omega), if_neg (by omega), if_neg (by omega), if_neg (by omega), if_neg (by omega)]
  cases rs with
  | nil => rw [show (hdW []).data.toList = [] from rfl, numM_nil]; rfl
  | cons y r =>
    simp only [List.map_cons, hdW, List.tail_cons]
    cases numM y.data.toList with
    | none => rfl
    | some v => simp only; rw [if_neg (by omega)]
theorem readT_mark {f : Nat} {x : ByteArray} {rs : List ByteArray} (h : opOf x.data.toList = 4) : readT (f + 1) (ll (x :: rs)) = match letter (hdW rs).data.toList with | some v => some (.mk 4 v 0 [], ll rs.tail) | none => none := by
  rw [readT, Te.stepT.eq_def]; simp only [ll, List.map_cons]; rw [h, if_neg (by omega), if_neg (by omega), if_neg (by omega), if_neg (by omega), if_pos rfl]
  cases rs with
  | nil => rw [show (hdW []).data.toList = [] from rfl, letter_nil]; rfl
  | cons y r =>
    simp only [List.map_cons, hdW, List.tail_cons]
    rfl
theorem readT_before {f : Nat} {x : ByteArray} {rs : List ByteArray} (h : opOf x.data.toList = 7) : readT (f + 1) (ll (x :: rs)) = match numM (hdW rs).data.toList with | some v => (match letter (hdW rs.tail).data.toList with | some m => some (.mk 7 v m [], ll rs.tail.tail) | none => none) | none => none := by
  rw [readT, Te.stepT.eq_def]; simp only [ll, List.map_cons]; rw [h, if_neg (by omega), if_neg (by omega), if_neg (by omega), if_neg (by omega), if_neg (by omega)]
  cases rs with
  | nil => rw [show (hdW []).data.toList = [] from rfl, numM_nil]; rfl
  | cons y r =>
    simp only [List.map_cons, hdW, List.tail_cons]
    cases numM y.data.toList with
    | none => rfl
    | some v =>
      simp only [if_true]
      cases r with
      | nil => rfl
      | cons z r => simp only [List.map_cons, List.tail_cons]; rfl
theorem readT_list {f : Nat} {x : ByteArray} {rs : List ByteArray} (o : Int) (h : opOf x.data.toList = o) (ho : o = 9 ∨ o = 10) : readT (f + 1) (ll (x :: rs)) = match listR f (ll rs) with | some (K, r) => some (.mk o 0 0 K, r) | none => none := by
  rw [readT, Te.stepT.eq_def]; simp only [ll, List.map_cons]; rw [h, if_neg (by omega), if_neg (by omega), if_neg (by omega), if_pos ho]
  cases rs with
  | nil => rfl
  | cons y r =>
    simp only [List.map_cons, listR]
    split
    · rfl
    · rfl
theorem readT_not {f : Nat} {x : ByteArray} {rs : List ByteArray} (h : opOf x.data.toList = 11) : readT (f + 1) (ll (x :: rs)) = match readT f (ll rs) with | some (k, r) => some (.mk 11 0 0 [k], r) | none => none := by
  rw [readT, Te.stepT.eq_def]; simp only [ll, List.map_cons]; rw [h, if_neg (by omega), if_neg (by omega), if_pos rfl]; rfl

theorem ba_word {x : ByteArray} {l : List UInt8} (h : x.data.toList = l) : x = ⟨l.toArray⟩ := str_eq (by rw [h])

theorem opOf_word {x : List UInt8} {o : Int} (h : opOf x = o) (ho : o ≠ 0) : x = opW o := by
  unfold opOf at h
  split at h
  · subst h; assumption
  split at h
  · subst h; assumption
  split at h
  · subst h; assumption
  split at h
  · subst h; assumption
  split at h
  · subst h; assumption
  split at h
  · subst h; assumption
  split at h
  · subst h; assumption
  split at h
  · subst h; assumption
  split at h
  · subst h; assumption
  split at h
  · subst h; assumption
  split at h
  · subst h; assumption
  · exact absurd h.symm ho

theorem opOf_none {x : List UInt8} (h : opOf x = 0) : ∀ o : Int, 1 ≤ o → o ≤ 11 → x ≠ opW o := by
  intro o h1 h2 e
  rw [e, opOf_opW o h1 h2] at h
  omega

theorem term_some {rd : Nat} {w W : World} {t : Tm} {r : List (List UInt8)} {row : RT} {d : Nat} (hlt : rd < w.heap.size) (hb : But rd w W) (hr : RdAt W rd (r.map bs) false) (hv : TV (NewQ (w.heap.size + 1)) W d row t) :
    TermG rd (some (t, r)) w (.returned (.agg #[.int .i64 row.op, .int .i64 row.num, .int .i64 row.more, .slice row.p row.n row.c])) (put4 W w.heap.size (.int .i64 row.op) (.int .i64 row.num) (.int .i64 row.more) (.slice row.p row.n row.c)) := by
  refine ⟨row, rfl, put4_but hb _ _ _ _, hr.put4 hlt _ _ _ _, d, hv.change (by rw [(put4_block _ _ _ _ _ _).1]; exact Nat.le_refl _) fun b hq _ => ⟨(put4_block _ _ _ _ _ _).2 b (by unfold NewQ at hq; omega), by unfold NewQ at *; omega⟩⟩

theorem term_none {rd : Nat} {w W : World} {ws' : List ByteArray} (row : RT) (hlt : rd < w.heap.size) (hb : But rd w W) (hr : RdAt W rd ws' true) :
    TermG rd none w (.returned (.agg #[.int .i64 row.op, .int .i64 row.num, .int .i64 row.more, .slice row.p row.n row.c])) (put4 W w.heap.size (.int .i64 row.op) (.int .i64 row.num) (.int .i64 row.more) (.slice row.p row.n row.c)) :=
  ⟨row, rfl, put4_but hb _ _ _ _, ws', hr.put4 hlt _ _ _ _⟩

theorem put4_new {b : Nat} {W : World} (h : Res4 b W) (x0 x1 x2 x3 : Value) (o : Obj) : ((put4 W b x0 x1 x2 x3).alloc o).cell? ⟨b, 0, none⟩ = some x0 ∧ ((put4 W b x0 x1 x2 x3).alloc o).cell? ⟨b, 1, none⟩ = some x1 ∧ ((put4 W b x0 x1 x2 x3).alloc o).cell? ⟨b, 2, none⟩ = some x2 ∧ ((put4 W b x0 x1 x2 x3).alloc o).cell? ⟨b, 3, none⟩ = some x3 := by
  obtain ⟨q0, q1, q2, q3⟩ := put4_at h x0 x1 x2 x3
  have hb : Below (put4 W b x0 x1 x2 x3).heap.size (put4 W b x0 x1 x2 x3) ((put4 W b x0 x1 x2 x3).alloc o) := (Below.refl _ _).alloc (Nat.le_refl _) _
  have hl : b < (put4 W b x0 x1 x2 x3).heap.size := by rw [(put4_block _ _ _ _ _ _).1]; exact h.lt
  exact ⟨(hb.cell (p := ⟨b, 0, none⟩) hl).trans q0, (hb.cell (p := ⟨b, 1, none⟩) hl).trans q1, (hb.cell (p := ⟨b, 2, none⟩) hl).trans q2, (hb.cell (p := ⟨b, 3, none⟩) hl).trans q3⟩

theorem term_new {rd : Nat} {w W : World} {o : Option (Tm × List (List UInt8))} {e : Ending} (h : TermG rd o w e W) (ob : Obj) : TermG rd o w e (W.alloc ob) := by
  obtain ⟨row, he, hb, hk⟩ := h
  have hA : Below W.heap.size W (W.alloc ob) := (Below.refl _ _).alloc (Nat.le_refl _) _
  refine ⟨row, he, hb.nxt hA, ?_⟩
  cases o with
  | none => obtain ⟨ws, h⟩ := hk; exact ⟨ws, h.below hA⟩
  | some tr => obtain ⟨h1, d, h2⟩ := hk; exact ⟨h1.below hA, d, h2.below hA⟩

theorem term_not {rd : Nat} {w W : World} {k : Tm} {r : List (List UInt8)} {row : RT} {d : Nat} (T : TypeId) (hlt : rd < w.heap.size) (hb : But rd w W) (hz : w.heap.size < W.heap.size) (hr : RdAt W rd (r.map bs) false) (hv : TV (NewQ (w.heap.size + 1)) W d row k) :
    TermG rd (some (.mk 11 0 0 [k], r)) w (.returned (.agg #[.int .i64 11, .int .i64 0, .int .i64 0, .slice (some ⟨W.heap.size, 0, none⟩) 1 1])) ((put4 W w.heap.size (.int .i64 11) (.int .i64 0) (.int .i64 0) (.slice (some ⟨W.heap.size, 0, none⟩) 1 1)).alloc (.cells #[.int .i64 row.op, .int .i64 row.num, .int .i64 row.more, .slice row.p row.n row.c] T)) := by
  have hs := (put4_block W w.heap.size (.int .i64 11) (.int .i64 0) (.int .i64 0) (.slice (some ⟨W.heap.size, 0, none⟩) 1 1))
  have hv1 : TV (NewQ w.heap.size) (put4 W w.heap.size (.int .i64 11) (.int .i64 0) (.int .i64 0) (.slice (some ⟨W.heap.size, 0, none⟩) 1 1)) d row k := hv.change (by rw [hs.1]; exact Nat.le_refl _) fun b hq _ => ⟨hs.2 b (by unfold NewQ at hq; omega), by unfold NewQ at *; omega⟩
  have hA := (Below.refl (put4 W w.heap.size (.int .i64 11) (.int .i64 0) (.int .i64 0) (.slice (some ⟨W.heap.size, 0, none⟩) 1 1)).heap.size (put4 W w.heap.size (.int .i64 11) (.int .i64 0) (.int .i64 0) (.slice (some ⟨W.heap.size, 0, none⟩) 1 1))).alloc (Nat.le_refl _) (.cells #[.int .i64 row.op, .int .i64 row.num, .int .i64 row.more, .slice row.p row.n row.c] T)
  refine ⟨⟨11, 0, 0, some ⟨W.heap.size, 0, none⟩, 1, 1⟩, rfl, (put4_but hb _ _ _ _).nxt hA, (hr.put4 hlt _ _ _ _).below hA, d + 1, ⟨rfl, rfl, rfl, rfl, Nat.le_refl _, fun e => by cases e⟩, [row], rfl, ?_, fun a e => .inr (by cases e; show w.heap.size ≤ W.heap.size; omega), fun j hj hj' => ?_⟩
  · have := Recs.lit (S := ST) (put4 W w.heap.size (.int .i64 11) (.int .i64 0) (.int .i64 0) (.slice (some ⟨W.heap.size, 0, none⟩) 1 1)) T [row] (by show 1 ≤ _; unfold maxLen; omega)
    rw [hs.1] at this
    exact this
  · have : j = 0 := by simp at hj; exact hj
    subst this
    exact ⟨hv1.is, hv1.at_.below hA⟩

theorem TV.leaf (Q : Nat → Prop) (W : World) (o n m : Int) : TV Q W 0 ⟨o, n, m, none, 0, 0⟩ (.mk o n m []) := ⟨⟨rfl, rfl, rfl, rfl, Nat.le_refl _, fun _ => rfl⟩, rfl⟩

theorem beq_no {x : ByteArray} {l : List UInt8} (h : x.data.toList ≠ l) : (x.toList == l) = false := by
  rw [ByteArray.toList_eq]
  simpa using h

set_option maxRecDepth 100000 in
set_option maxHeartbeats 16000000 in
theorem term_nil {f : Nat} (rd : Nat) (w : World) (h : RdAt w rd [] false) (hE : ∀ W, But rd w W → Env W) : Calls Tryz.prog 140 #[.pointer (some ⟨rd, 0, none⟩)] w (TermG rd (readT f (ll [])) w) := by
  have hlt := h.lt
  have hne : w.heap.size ≠ rd := by omega
  have hA : Below w.heap.size w (w.alloc (.cells #[.int .i64 0, .int .i64 0, .int .i64 0, .slice none 0 0] 29)) := (Below.refl _ _).alloc (Nat.le_refl _) _
  have WD := Lib.hid (rdword_any rd [] false _ (h.below hA))
  have HS := Lib.hid (Res4.new w 29)
  have HB0 := Lib.hid (But.of_below (t := rd) hA)
  have HE := Lib.hid (fun (W W' : World) (hb : But rd w W) (hb2 : But rd W W') => hE W' (hb.trans hb2))
  unfold WordG at WD
  have hlen := h.len
  have HRD := Lib.hid (show readT f (ll []) = none from readT_nil _)
  rw [HRD.out]
  have WD := Lib.hid (show Calls Tryz.prog 155 #[.pointer (some ⟨rd, 0, none⟩)] ((w.alloc (.cells #[.int .i64 0, .int .i64 0, .int .i64 0, .slice none 0 0] 29))) (fun e w' => e = .returned (.string ⟨#[]⟩) ∧ RdAt w' rd [] true ∧ But rd ((w.alloc (.cells #[.int .i64 0, .int .i64 0, .int .i64 0, .slice none 0 0] 29))) w') from WD.out)
  clear h hE hA HE
  go_enter Tryz.func140, Tryz.ntmps140
  go_wp2_with (first | (go_at_call 155; (with_reducible refine Calls.mono WD.out ?_); rintro e w1 ⟨rfl, hr1, hb1⟩; have HR1 := Lib.hid hr1; have HS1 := Lib.hid (HS.out.but hb1 hne); have HB1 := Lib.hid (HB0.out.trans hb1); have hz1 := hb1.size; rw [World.size_alloc] at hz1; clear hr1 hb1; obtain ⟨k0, k1, k2, k3, f0, f1, f2, f3, hl1⟩ := HS1.out; have j1 := HR1.out.fl; have j2 := HR1.out.f1; have j3 := HR1.out.lt) | fail)
  have HF := Lib.hid HR1.out.fail
  have HS2 := Lib.hid (HS1.out.but HF.out.2 hne)
  have QQ := put4_at HS2.out (.int .i64 0) (.int .i64 0) (.int .i64 0) (.slice none 0 0)
  have FIN := Lib.hid (term_none ⟨0, 0, 0, none, 0, 0⟩ hlt (HB1.out.trans HF.out.2) HF.out.1)
  unfold put4 at QQ FIN
  obtain ⟨q0, q1, q2, q3⟩ := QQ
  clear k0 k1 k2 k3
  exact bodyPost_ret (v := .agg #[.int .i64 0, .int .i64 0, .int .i64 0, .slice none 0 0]) (by simp [results, Tryz.results140, go_sem, q0, q1, q2, q3]) rfl FIN.out

set_option maxRecDepth 100000 in
set_option maxHeartbeats 16000000 in
theorem term_no {f : Nat} (rd : Nat) (x : ByteArray) (rs : List ByteArray) (w : World) (h : RdAt w rd (x :: rs) false) (hE : ∀ W, But rd w W → Env W) (ho : opOf x.data.toList = 0) : Calls Tryz.prog 140 #[.pointer (some ⟨rd, 0, none⟩)] w (TermG rd (readT (f + 1) (ll (x :: rs))) w) := by
  have hlt := h.lt
  have hne : w.heap.size ≠ rd := by omega
  have hA : Below w.heap.size w (w.alloc (.cells #[.int .i64 0, .int .i64 0, .int .i64 0, .slice none 0 0] 29)) := (Below.refl _ _).alloc (Nat.le_refl _) _
  have WD := Lib.hid (rdword_any rd (x :: rs) false _ (h.below hA))
  have HS := Lib.hid (Res4.new w 29)
  have HB0 := Lib.hid (But.of_below (t := rd) hA)
  have HE := Lib.hid (fun (W W' : World) (hb : But rd w W) (hb2 : But rd W W') => hE W' (hb.trans hb2))
  unfold WordG at WD
  have hlen := h.len
  have HRD := Lib.hid (readT_no (f := f) (rs := rs) ho)
  rw [HRD.out]
  have WD := Lib.hid (show Calls Tryz.prog 155 #[.pointer (some ⟨rd, 0, none⟩)] ((w.alloc (.cells #[.int .i64 0, .int .i64 0, .int .i64 0, .slice none 0 0] 29))) (fun e w' => e = .returned (.string x) ∧ RdAt w' rd rs false ∧ But rd ((w.alloc (.cells #[.int .i64 0, .int .i64 0, .int .i64 0, .slice none 0 0] 29))) w') from WD.out)
  have hno := opOf_none ho
  have n1 : (x.toList == [116, 114, 117, 101]) = false := beq_no (hno 1 (by decide) (by decide))
  have n2 : (x.toList == [99, 114, 111, 112]) = false := beq_no (hno 2 (by decide) (by decide))
  have n3 : (x.toList == [102, 97, 109, 105, 108, 121]) = false := beq_no (hno 3 (by decide) (by decide))
  have n4 : (x.toList == [109, 97, 114, 107]) = false := beq_no (hno 4 (by decide) (by decide))
  have n5 : (x.toList == [122, 111, 110, 101]) = false := beq_no (hno 5 (by decide) (by decide))
  have n6 : (x.toList == [115, 97, 109, 101]) = false := beq_no (hno 6 (by decide) (by decide))
  have n7 : (x.toList == [98, 101, 102, 111, 114, 101]) = false := beq_no (hno 7 (by decide) (by decide))
  have n8 : (x.toList == [107, 110, 111, 119, 110]) = false := beq_no (hno 8 (by decide) (by decide))
  have n9 : (x.toList == [97, 110, 100]) = false := beq_no (hno 9 (by decide) (by decide))
  have n10 : (x.toList == [111, 114]) = false := beq_no (hno 10 (by decide) (by decide))
  have n11 : (x.toList == [110, 111, 116]) = false := beq_no (hno 11 (by decide) (by decide))
  clear h hE hA HE ho hno
  go_enter Tryz.func140, Tryz.ntmps140
  go_wp2_with (first | (go_at_call 155; (with_reducible refine Calls.mono WD.out ?_); rintro e w1 ⟨rfl, hr1, hb1⟩; have HR1 := Lib.hid hr1; have HS1 := Lib.hid (HS.out.but hb1 hne); have HB1 := Lib.hid (HB0.out.trans hb1); have hz1 := hb1.size; rw [World.size_alloc] at hz1; clear hr1 hb1; obtain ⟨k0, k1, k2, k3, f0, f1, f2, f3, hl1⟩ := HS1.out; have j1 := HR1.out.fl; have j2 := HR1.out.f1; have j3 := HR1.out.lt) | fail)
  have HF := Lib.hid HR1.out.fail
  have HS2 := Lib.hid (HS1.out.but HF.out.2 hne)
  have QQ := put4_at HS2.out (.int .i64 0) (.int .i64 0) (.int .i64 0) (.slice none 0 0)
  have FIN := Lib.hid (term_none ⟨0, 0, 0, none, 0, 0⟩ hlt (HB1.out.trans HF.out.2) HF.out.1)
  unfold put4 at QQ FIN
  obtain ⟨q0, q1, q2, q3⟩ := QQ
  clear k0 k1 k2 k3
  exact bodyPost_ret (v := .agg #[.int .i64 0, .int .i64 0, .int .i64 0, .slice none 0 0]) (by simp [results, Tryz.results140, go_sem, q0, q1, q2, q3]) rfl FIN.out

set_option maxRecDepth 100000 in
set_option maxHeartbeats 16000000 in
theorem term_op1 {f : Nat} (rd : Nat) (x : ByteArray) (rs : List ByteArray) (w : World) (h : RdAt w rd (x :: rs) false) (hE : ∀ W, But rd w W → Env W) (eo : opOf x.data.toList = 1) : Calls Tryz.prog 140 #[.pointer (some ⟨rd, 0, none⟩)] w (TermG rd (readT (f + 1) (ll (x :: rs))) w) := by
  have hlt := h.lt
  have hne : w.heap.size ≠ rd := by omega
  have hA : Below w.heap.size w (w.alloc (.cells #[.int .i64 0, .int .i64 0, .int .i64 0, .slice none 0 0] 29)) := (Below.refl _ _).alloc (Nat.le_refl _) _
  have WD := Lib.hid (rdword_any rd (x :: rs) false _ (h.below hA))
  have HS := Lib.hid (Res4.new w 29)
  have HB0 := Lib.hid (But.of_below (t := rd) hA)
  have HE := Lib.hid (fun (W W' : World) (hb : But rd w W) (hb2 : But rd W W') => hE W' (hb.trans hb2))
  unfold WordG at WD
  have hlen := h.len
  have hx := ba_word (opOf_word eo (by decide))
  have WD := Lib.hid (show Calls Tryz.prog 155 #[.pointer (some ⟨rd, 0, none⟩)] ((w.alloc (.cells #[.int .i64 0, .int .i64 0, .int .i64 0, .slice none 0 0] 29))) (fun e w' => e = .returned (.string ⟨#[116, 114, 117, 101]⟩) ∧ RdAt w' rd rs false ∧ But rd ((w.alloc (.cells #[.int .i64 0, .int .i64 0, .int .i64 0, .slice none 0 0] 29))) w') from hx ▸ WD.out)
  rw [readT_true (f := f) (rs := rs) eo]
  clear h hE hA HE eo hx
  go_enter Tryz.func140, Tryz.ntmps140
  go_wp2_with (first | (go_at_call 155; (with_reducible refine Calls.mono WD.out ?_); rintro e w1 ⟨rfl, hr1, hb1⟩; have HR1 := Lib.hid hr1; have HS1 := Lib.hid (HS.out.but hb1 hne); have HB1 := Lib.hid (HB0.out.trans hb1); have hz1 := hb1.size; rw [World.size_alloc] at hz1; clear hr1 hb1; obtain ⟨k0, k1, k2, k3, f0, f1, f2, f3, hl1⟩ := HS1.out; have j1 := HR1.out.fl; have j2 := HR1.out.f1; have j3 := HR1.out.lt) | fail)
  have QQ := put4_at HS1.out (.int .i64 1) (.int .i64 0) (.int .i64 0) (.slice none 0 0)
  have FIN := Lib.hid (term_some (t := .mk 1 0 0 []) (r := ll rs) (row := ⟨1, 0, 0, none, 0, 0⟩) hlt HB1.out (by rw [bs_ll]; exact HR1.out) (TV.leaf _ _ 1 0 0))
  unfold put4 at QQ FIN
  obtain ⟨q0, q1, q2, q3⟩ := QQ
  clear k0 k1 k2 k3
  exact bodyPost_ret (v := .agg #[.int .i64 1, .int .i64 0, .int .i64 0, .slice none 0 0]) (by simp [results, Tryz.results140, go_sem, q0, q1, q2, q3]) rfl FIN.out

end Go.Proofs.YtflcdkibjakciaaGreatDoor
