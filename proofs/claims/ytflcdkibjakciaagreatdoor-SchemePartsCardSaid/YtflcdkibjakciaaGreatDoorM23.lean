/-
  MERGED (mergek.py): the texts T14, T15.
-/
import Derived.Test.YtflcdkibjakciaaGreatDoorT13a
import Derived.Test.YtflcdkibjakciaaGreatDoorM22

namespace Go.Proofs.YtflcdkibjakciaaGreatDoor
open Go.RowKit Te

theorem info_term : (Tryz.prog.info? 29).map (fun i => (i.zero, i.size, i.bytes)) = some (some (.agg #[.int .i64 0, .int .i64 0, .int .i64 0, .slice none 0 0]), 4, 48) := by kernel_rfl

theorem el_term : Elem ST Tryz.prog 29 27 48 := by
  obtain ⟨i0, h1, h2, h3, h4⟩ := info_parts info_term
  exact ⟨⟨i0, _, h1, h2, h3, h4, rfl⟩, Tryz.underlying27⟩

/-- Memory of the call's own beside a row. -/
def KQ (B : Nat) (v : Value) : Nat → Prop := fun b => B ≤ b ∧ v.ownBlock ≠ some b

/-- Terms that are being built: their rows lie at the slice v of the call's own. -/
structure KB (B : Nat) (wr : World) (v : Value) (R : List RT) (K : List Tm) (d : Nat) : Prop where
  hl : R.length = K.length
  rows : ∀ j (h : j < R.length) (h' : j < K.length), RT.Is R[j] K[j] ∧ TmsAt (KQ B v) wr d R[j].p K[j].kids

theorem KB.nil (B : Nat) (wr : World) (v : Value) : KB B wr v [] [] 0 := ⟨rfl, fun j h => by simp at h⟩

theorem KB.change {B : Nat} {wr w' : World} {v : Value} {R : List RT} {K : List Tm} {d : Nat} (h : KB B wr v R K d) (hs : wr.heap.size ≤ w'.heap.size) (hb : ∀ b, B ≤ b → b < wr.heap.size → w'.heap[b]? = wr.heap[b]?) : KB B w' v R K d :=
  ⟨h.hl, fun j h1 h2 => ⟨(h.rows j h1 h2).1, (h.rows j h1 h2).2.change hs fun b hq hl => ⟨hb b hq.1 hl, hq⟩⟩⟩

theorem KB.but {B rd : Nat} {wr w' : World} {v : Value} {R : List RT} {K : List Tm} {d : Nat} (h : KB B wr v R K d) (hb : But rd wr w') (hlt : rd < B) : KB B w' v R K d := h.change hb.size fun b hB hl => hb.block b hl (by omega)

/-- One more. -/
theorem KB.add {B : Nat} {w5 w6 : World} {v v6 : Value} {R : List RT} {K : List Tm} {d e : Nat} (h : KB B w5 v R K d) {y : RT} {t : Tm} (hy : TV (KQ B v) w5 e y t) {G : Nat} (hG : w5.heap.size ≤ G) (hap : Appends w5 w6 B G v v6) : KB B w6 v6 (R ++ [y]) (K ++ [t]) (max d e) := by
  have key : ∀ b, KQ B v b → b < w5.heap.size → w6.heap[b]? = w5.heap[b]? ∧ KQ B v6 b := fun b hq hl => by
    refine ⟨hap.far b hl hq.2, hq.1, fun e => ?_⟩
    rcases hap.block with e3 | e3
    · rw [e3] at e; exact hq.2 e
    · rw [e3] at e; injection e with e; omega
  refine ⟨by rw [List.length_append, List.length_append, h.hl]; rfl, fun j h1 h2 => ?_⟩
  by_cases hlt : j < R.length
  · rw [List.getElem_append_left hlt, List.getElem_append_left (by rw [← h.hl]; exact hlt)]
    have := h.rows j hlt (by rw [← h.hl]; exact hlt)
    exact ⟨this.1, (this.2.change hap.size key).deep (Nat.le_max_left _ _)⟩
  · have e : j = R.length := by rw [List.length_append] at h1; simp at h1; omega
    subst e
    rw [List.getElem_append_right (Nat.le_refl _), List.getElem_append_right (by rw [h.hl]; exact Nat.le_refl _)]
    simp only [Nat.sub_self, h.hl, List.getElem_cons_zero]
    exact ⟨hy.is, (hy.at_.change hap.size key).deep (Nat.le_max_right _ _)⟩

theorem KB.at {B : Nat} {wr : World} {v : Value} {R : List RT} {K : List Tm} {d : Nat} (h : KB B wr v R K d) (hO : OwnR ST wr 29 B v R) {Q : Nat → Prop} (hQ : ∀ b, B ≤ b → Q b) :
    ∃ p c, v = .slice p K.length c ∧ K.length ≤ c ∧ (p = none → c = 0) ∧ TmsAt Q wr (d + 1) p K := by
  obtain ⟨p, c, e, h1, h2, h3, -, h4⟩ := hO.cut h.hl
  refine ⟨p, c, e, h3, fun e => (h1 e).1, R, h.hl, h4, fun a ea => .inr (hQ _ (h2 a ea).2.2.1), fun j hj hj' => ⟨(h.rows j hj hj').1, (h.rows j hj hj').2.change (Nat.le_refl _) fun b hq _ => ⟨rfl, hQ b hq.1⟩⟩⟩

/-- What list's loop keeps: it goes on, or it has failed. -/
def ListSt (rd f : Nat) (w : World) (r0 : List (List UInt8)) (gk : Nat) (v : Value) (wr : World) : Prop :=
  ∃ R : List RT, OwnR ST wr 29 w.heap.size v R ∧ But rd w wr ∧ R.length ≤ 1000001 ∧
    ((∃ (K : List Tm) (r : List (List UInt8)) (d : Nat), RdAt wr rd (r.map bs) false ∧ KB w.heap.size wr v R K d ∧ K.length + r.length ≤ 1000000 ∧ 2 * r.length + 1 ≤ gk ∧ gk ≤ f ∧ readL f r0 = (readL gk r).map fun x => (K ++ x.1, x.2)) ∨
     (readL f r0 = none ∧ ∃ ws', RdAt wr rd ws' true))

theorem list_none {rd : Nat} {w wr : World} {v : Value} {R : List RT} {ws' : List ByteArray} (hO : OwnR ST wr 29 w.heap.size v R) (hb : But rd w wr) (hr : RdAt wr rd ws' true) : ListG rd none w (.returned v) wr := by
  obtain ⟨p, c, rfl, -⟩ := hO.cut rfl
  exact ⟨p, _, c, rfl, hb, ws', hr⟩

theorem map_snoc {K : List Tm} {t : Tm} {o : Option (List Tm × List (List UInt8))} : (o.map fun x => (t :: x.1, x.2)).map (fun x => (K ++ x.1, x.2)) = o.map fun x => (K ++ [t] ++ x.1, x.2) := by
  cases o with
  | none => rfl
  | some x => simp

theorem readL_term {g : Nat} {y : List UInt8} {r : List (List UInt8)} (hy : y ≠ [41]) : readL (g + 1) (y :: r) = match readT g (y :: r) with | some (t, r1) => (readL g r1).map fun x => (t :: x.1, x.2) | none => none := by
  rw [readL, Te.stepL.eq_def]
  simp only
  rw [if_neg hy]
  cases readT g (y :: r) with
  | none => rfl
  | some x =>
    obtain ⟨t, r1⟩ := x
    simp only
    cases readL g r1 <;> rfl

theorem readL_close {g : Nat} {r : List (List UInt8)} : readL (g + 1) ([41] :: r) = some ([], r) := by rw [readL, Te.stepL.eq_def]; simp
theorem readL_nil {g : Nat} : readL g [] = none := by cases g with | zero => rw [readL] | succ g => rw [readL, Te.stepL.eq_def]

theorem RdAt.below_B {B : Nat} {w w' : World} {rd : Nat} {ws : List ByteArray} {fl : Bool} (h : RdAt w rd ws fl) (hb : Below B w w') (hB : rd < B) : RdAt w' rd ws fl := by
  obtain ⟨p, c, h1, h2, h3, h4, h5⟩ := h.row
  refine ⟨⟨p, c, (hb.cell (p := ⟨rd, 0, none⟩) hB).trans h1, h2.blocks hb.size fun a e => ?_, h3, h4, h5⟩, (hb.cell (p := ⟨rd, 1, none⟩) hB).trans h.fl, (hb.frozen (p := ⟨rd, 0, none⟩) hB).trans h.f0, (hb.frozen (p := ⟨rd, 1, none⟩) hB).trans h.f1, Nat.lt_of_lt_of_le h.lt hb.size, h.wd, h.len⟩
  rcases h5 a e with h | h
  · exact .inl h
  · exact .inr (hb.block _ (by omega))

set_option maxRecDepth 100000 in
set_option maxHeartbeats 16000000 in
theorem list_step {f : Nat} (IH : ∀ g, g < f → TermAtR g) : ListAtR f := by
  intro rd ws w h hE hf
  have hlt := h.lt
  have hlen := h.len
  have WD := Lib.hid (rdword_any rd ws false _ h)
  unfold WordG at WD
  by_cases hp : hdW ws = ⟨#[40]⟩
  rotate_left
  · have hG : listR f (ll ws) = none := by
      cases ws with
      | nil => rfl
      | cons y r =>
        show (if y.data.toList = [40] then readL f (ll r) else none) = none
        exact if_neg (fun e => hp (ba_word e))
    rw [hG]
    obtain ⟨s, es⟩ : ∃ s, hdW ws = s := ⟨_, rfl⟩
    rw [es] at WD hp
    have hs : (s.toList == [40]) = false := beq_no (fun e => hp (ba_word e))
    have hs2 : (s.toList != [40]) = true := by rw [bne, hs]; rfl
    clear h hE IH hG es hp
    go_enter Tryz.func158, Tryz.ntmps158
    go_wp2_with (first | (go_at_call 155; (with_reducible refine Calls.mono WD.out ?_); rintro e w1 ⟨rfl, hr1, hb1⟩; have HF := Lib.hid hr1.fail; have HB := Lib.hid (hb1.trans hr1.fail.2); have j1 := hr1.fl; have j2 := hr1.f1; have j3 := hr1.lt; clear hr1 hb1) | fail)
    have q1 := HF.out.1.fl
    refine wp_loop_rounds 1 ?_
    rw [rounds_succ]
    go_wp2
    go_ret
    exact ⟨none, 0, 0, rfl, HB.out, _, HF.out.1⟩
  obtain ⟨r, rfl⟩ : ∃ r, ws = ⟨#[40]⟩ :: r := by
    cases ws with
    | nil => exact absurd (congrArg ByteArray.size hp) (by decide)
    | cons y r => exact ⟨r, by rw [show y = ⟨#[40]⟩ from hp]⟩
  have hG : listR f (ll (⟨#[40]⟩ :: r)) = readL f (ll r) := by
    show (if (⟨#[40]⟩ : ByteArray).data.toList = [40] then readL f (ll r) else none) = readL f (ll r)
    rw [if_pos rfl]
  rw [hG]
  have WD := Lib.hid (show Calls Tryz.prog 155 #[.pointer (some ⟨rd, 0, none⟩)] w (fun e w' => e = .returned (.string ⟨#[40]⟩) ∧ RdAt w' rd r false ∧ But rd w w') from WD.out)
  rw [List.length_cons] at hf hlen
  have IHH := Lib.hid IH
  have HE := Lib.hid hE
  obtain ⟨r0, er0⟩ : ∃ r0, ll r = r0 := ⟨_, rfl⟩
  have hrb : r = r0.map bs := by rw [← er0, bs_ll]
  have hrl : r0.length = r.length := by rw [← er0, ll_len]
  rw [hrb] at WD
  rw [er0]
  have hfl : 2 * r0.length + 1 ≤ f := by omega
  have hll : r0.length ≤ 1000000 := by omega
  clear h hE IH hG er0 hrb hrl hf hlen hp
  go_enter Tryz.func158, Tryz.ntmps158
  go_wp2_with (first | (go_at_call 155; (with_reducible refine Calls.mono WD.out ?_); rintro e w1 ⟨rfl, hr1, hb1⟩; have HR1 := Lib.hid hr1; have HB1 := Lib.hid hb1; clear hr1 hb1) | fail)
  go_loopg [3] f (fun gk v wr => ∃ vv : Value, vv = v ∧ ListSt rd f w r0 gk vv wr)
  case atStart => exact ⟨_, rfl, [], OwnR.nil _ _ _, HB1.out, by simp, .inl ⟨[], r0, 0, HR1.out, KB.nil _ _ _, by simp; omega, hfl, Nat.le_refl _, by cases readL f r0 <;> rfl⟩⟩
  case round =>
    clear HR1 HB1 WD
    obtain ⟨wo, rfl⟩ : ∃ wo : World, wo = wr := ⟨_, rfl⟩
    obtain ⟨vv, hvv, R, hO, hb, hRl, hst⟩ := hrel
    subst hvv
    have HO := Lib.hid hO
    have HB := Lib.hid hb
    have hsz := hb.size
    rcases hst with ⟨K, rr, d, hr, hk, hkl, hg, hgf, heq⟩ | ⟨heq, ws', hr⟩
    · have HR := Lib.hid hr
      have HK := Lib.hid hk
      have HQ := Lib.hid heq
      have q1 := hr.fl
      obtain ⟨g, rfl⟩ : ∃ g, gk = g + 1 := ⟨gk - 1, by omega⟩
      cases rr with
      | nil =>
        have hRK := hk.hl
        have HN := Lib.hid (show readL f r0 = none by rw [HQ.out, readL_nil]; rfl)
        have TM := Lib.hid (show Calls Tryz.prog 140 #[.pointer (some ⟨rd, 0, none⟩)] wo (TermG rd none wo) from readT_nil g ▸ IHH.out g (by omega) rd [] wo hr (fun W hW => HE.out W (HB.out.trans hW)) (by simp))
        obtain ⟨p, c, e1, -⟩ := hr.row
        simp only [List.map_nil, List.length_nil] at e1
        clear hr hk heq hO hb
        go_wp2_with (first
          | (go_at_call 140; (with_reducible refine Calls.mono TM.out ?_); rintro e w2 ⟨row, rfl, hb2, hk2⟩; have HK2 := Lib.hid hk2; have HB2 := Lib.hid hb2; have HO2 := Lib.hid (HO.out.but hb2 hlt); have hs2 := hb2.size; clear hk2 hb2)
          | (at_builtin; (refine OwnR.append el_term rfl (.tmp 33) (.tmp 36) rfl w.heap.size vv R row #[.int .i64 row.op, .int .i64 row.num, .int .i64 row.more, .slice row.p row.n row.c] rfl HO2.out rfl (by simp [Act.eval]) (by omega) (by omega) (by decide) ?_); intro v3 w3 hO3 hap3; have HO3 := Lib.hid hO3; have HAP := Lib.hid hap3; clear hO3 hap3)
          | fail)
        have HF := Lib.hid (show ListSt rd f w r0 g v3 w3 from by
          obtain ⟨ws2, hr2⟩ := (show ∃ ws', RdAt w2 rd ws' true from HK2.out)
          exact ⟨R ++ [row], HO3.out, (HB.out.trans HB2.out).stpB HAP.out.below (Nat.le_refl _), by rw [List.length_append]; simp; omega, .inr ⟨HN.out, ws2, hr2.below_B HAP.out.below hlt⟩⟩)
        go_roundg g
        case measure => omega
        case rel => exact ⟨_, rfl, HF.out⟩
      | cons y rr =>
        have hlr : rr.length + 1 + K.length ≤ 1000000 := by rw [List.length_cons] at hkl; omega
        have hgr : 2 * rr.length + 2 ≤ g := by rw [List.length_cons] at hg; omega
        obtain ⟨b, off, c, e1, e2, e3, e4, e5, e6⟩ := hr.head
        rw [List.length_map] at e1 e2
        have hRK := hk.hl
        have e7 : (0 : Int) < ((rr.length + 1 : Nat) : Int) := by omega
        by_cases hy : y = [41]
        · subst hy
          have WD := Lib.hid (show Calls Tryz.prog 155 #[.pointer (some ⟨rd, 0, none⟩)] wo (fun e w' => e = .returned (.string ⟨#[41]⟩) ∧ RdAt w' rd (rr.map bs) false ∧ But rd wo w') from rdword_any rd _ false wo hr)
          have HN := Lib.hid (show readL f r0 = some (K, rr) by rw [HQ.out, readL_close]; simp)
          rw [HN.out]
          replace e4 : wo.cell? ⟨b, off, none⟩ = some (.string ⟨#[41]⟩) := e4
          clear hr hk heq hO hb e6
          go_wp2_with (first | (go_at_call 155; (with_reducible refine Calls.mono WD.out ?_); rintro e w1 ⟨rfl, hr1, hb1⟩; have HR1 := Lib.hid hr1; have HB1 := Lib.hid hb1; clear hr1 hb1) | fail)
          go_ret
          obtain ⟨p, c, rfl, h1, h2, h3⟩ := (HK.out.but HB1.out hlt).at (HO.out.but HB1.out hlt) (Q := NewQ w.heap.size) (fun b hb => hb)
          exact ⟨p, K.length, c, rfl, HB.out.trans HB1.out, HR1.out, rfl, h1, h2, _, h3⟩
        · have hyb : ((bs y).toList == [41]) = false := beq_no hy
          have TM := Lib.hid (show Calls Tryz.prog 140 #[.pointer (some ⟨rd, 0, none⟩)] wo (TermG rd (readT g (y :: rr)) wo) from by
            have := IHH.out g (by omega) rd ((y :: rr).map bs) wo hr (fun W hW => HE.out W (HB.out.trans hW)) (by rw [List.length_map, List.length_cons]; omega)
            rw [ll_bs] at this
            exact this)
          have HQ2 := Lib.hid (HQ.out.trans (by rw [readL_term hy]))
          have HLN := Lib.hid (fun t r1 (e : readT g (y :: rr) = some (t, r1)) => (read_len g).1 _ _ _ e)
          obtain ⟨s, es⟩ : ∃ s, bs y = s := ⟨_, rfl⟩
          rw [es] at hyb e4
          obtain ⟨tv, etv⟩ : ∃ tv, readT g (y :: rr) = tv := ⟨_, rfl⟩
          rw [etv] at TM HQ2 HLN
          clear hr hk heq hO hb e6 es etv
          cases tv with
          | none =>
            have HN := Lib.hid (show readL f r0 = none by rw [HQ2.out]; rfl)
            go_wp2_with (first
          | (go_at_call 140; (with_reducible refine Calls.mono TM.out ?_); rintro e w2 ⟨row, rfl, hb2, hk2⟩; have HK2 := Lib.hid hk2; have HB2 := Lib.hid hb2; have HO2 := Lib.hid (HO.out.but hb2 hlt); have hs2 := hb2.size; clear hk2 hb2)
          | (at_builtin; (refine OwnR.append el_term rfl (.tmp 33) (.tmp 36) rfl w.heap.size vv R row #[.int .i64 row.op, .int .i64 row.num, .int .i64 row.more, .slice row.p row.n row.c] rfl HO2.out rfl (by simp [Act.eval]) (by omega) (by omega) (by decide) ?_); intro v3 w3 hO3 hap3; have HO3 := Lib.hid hO3; have HAP := Lib.hid hap3; clear hO3 hap3)
          | fail)
            have HF := Lib.hid (show ListSt rd f w r0 g v3 w3 from by
              obtain ⟨ws2, hr2⟩ := (show ∃ ws', RdAt w2 rd ws' true from HK2.out)
              exact ⟨R ++ [row], HO3.out, (HB.out.trans HB2.out).stpB HAP.out.below (Nat.le_refl _), by rw [List.length_append]; simp; omega, .inr ⟨HN.out, ws2, hr2.below_B HAP.out.below hlt⟩⟩)
            go_roundg g
            case measure => omega
            case rel => exact ⟨_, rfl, HF.out⟩
          | some tr =>
            obtain ⟨t, r1⟩ := tr
            have hl1 := HLN.out t r1 rfl
            rw [List.length_cons] at hl1
            go_wp2_with (first
          | (go_at_call 140; (with_reducible refine Calls.mono TM.out ?_); rintro e w2 ⟨row, rfl, hb2, hk2⟩; have HK2 := Lib.hid hk2; have HB2 := Lib.hid hb2; have HO2 := Lib.hid (HO.out.but hb2 hlt); have hs2 := hb2.size; clear hk2 hb2)
          | (at_builtin; (refine OwnR.append el_term rfl (.tmp 33) (.tmp 36) rfl w.heap.size vv R row #[.int .i64 row.op, .int .i64 row.num, .int .i64 row.more, .slice row.p row.n row.c] rfl HO2.out rfl (by simp [Act.eval]) (by omega) (by omega) (by decide) ?_); intro v3 w3 hO3 hap3; have HO3 := Lib.hid hO3; have HAP := Lib.hid hap3; clear hO3 hap3)
          | fail)
            have HF := Lib.hid (show ListSt rd f w r0 g v3 w3 from by
              obtain ⟨hr2, d2, hv2⟩ := (show RdAt w2 rd (r1.map bs) false ∧ ∃ d, TV (NewQ wo.heap.size) w2 d row t from HK2.out)
              have hk2 := (HK.out.but HB2.out hlt).add (G := w2.heap.size + 1) (hv2.change (Q' := KQ w.heap.size vv) (Nat.le_refl _) fun b hq _ => ⟨rfl, by
                refine ⟨by unfold NewQ at hq; omega, fun e => ?_⟩
                have := (HO.out.lt e).2
                unfold NewQ at hq
                omega⟩) (Nat.le_succ _) HAP.out
              refine ⟨R ++ [row], HO3.out, (HB.out.trans HB2.out).stpB HAP.out.below (Nat.le_refl _), by rw [List.length_append]; simp; omega, .inl ⟨K ++ [t], r1, _, hr2.below_B HAP.out.below hlt, hk2, by rw [List.length_append]; simp; omega, by omega, by omega, ?_⟩⟩
              rw [HQ2.out]
              exact map_snoc)
            go_roundg g
            case measure => omega
            case rel => exact ⟨_, rfl, HF.out⟩
    · have HN := Lib.hid (show ListG rd (readL f r0) w (.returned vv) wo from heq ▸ list_none HO.out HB.out hr)
      have q1 := hr.fl
      clear hr heq hO hb
      go_wp2
      go_ret
      exact HN.out

theorem term_all : ∀ f : Nat, TermAtR f := by
  intro f
  induction f using Nat.strongRecOn with
  | _ f ih =>
  intro rd ws w h hE hf
  cases ws with
  | nil => exact term_nil rd w h hE
  | cons x rs =>
    rw [List.length_cons] at hf
    obtain ⟨f, rfl⟩ : ∃ g, f = g + 1 := ⟨f - 1, by omega⟩
    have HL : ListAtR f := list_step fun g hg => ih g (by omega)
    have HT : TermAtR f := ih f (by omega)
    have hf2 : 2 * rs.length + 1 ≤ f := by omega
    by_cases ho : opOf x.data.toList = 0
    · exact term_no rd x rs w h hE ho
    obtain ⟨o, eo⟩ : ∃ o, opOf x.data.toList = o := ⟨_, rfl⟩
    obtain ⟨o1, o2⟩ := opOf_bd x.data.toList
    rw [eo] at ho o1 o2
    have : o = 1 ∨ o = 2 ∨ o = 3 ∨ o = 4 ∨ o = 5 ∨ o = 6 ∨ o = 7 ∨ o = 8 ∨ o = 9 ∨ o = 10 ∨ o = 11 := by omega
    rcases this with rfl | rfl | rfl | rfl | rfl | rfl | rfl | rfl | rfl | rfl | rfl
    · exact term_op1 rd x rs w h hE eo
    · exact term_op2 rd x rs w h hE eo
    · exact term_op3 rd x rs w h hE eo
    · exact term_op4 rd x rs w h hE eo
    · exact term_op5 rd x rs w h hE eo
    · exact term_op6 rd x rs w h hE eo
    · exact term_op7 rd x rs w h hE eo
    · exact term_op8 rd x rs w h hE eo
    · exact term_op9 HL rd x rs w h hE hf2 eo
    · exact term_op10 HL rd x rs w h hE hf2 eo
    · exact term_op11 HT rd x rs w h hE hf2 eo

end Go.Proofs.YtflcdkibjakciaaGreatDoor

namespace Go.Proofs.YtflcdkibjakciaaGreatDoor
open Go.RowKit Te

def CloneG (n : Nat) (w : World) (e : Ending) (w' : World) : Prop := ∃ p c, e = .returned (.slice p n c) ∧ Below w.heap.size w w'

theorem OwnR.made0 {α : Type} {S : Shape α} (w : World) (T : TypeId) : OwnR S (w.alloc (.cells #[] T)) T w.heap.size (.slice (some ⟨w.heap.size, 0, none⟩) 0 0) [] :=
  World.ownsRow_made w #[] 0 (Nat.le_refl _) (by unfold maxLen; omega) (by simp)

set_option maxHeartbeats 1000000 in
theorem clonestr_any (p : Option Addr) (L : List ByteArray) (n cap : Nat) (w : World) (hL : L.length = n) (h : Recs SB w p L) (hc : p = none → cap = 0) (hl : n ≤ 1000000) :
    Calls Tryz.prog 141 #[.slice p n cap] w (CloneG n w) := by
  subst hL
  have hn := h.len
  have q := fun (w : World) (a : Option Addr) (n c n' c' : Nat) => Lib.run_eql_slice_nil (P := Tryz.prog) w _ _ a n c n' c' Tryz.underlying56
  cases p with
  | none =>
    have hL : L = [] := by
      rcases h.2 with h | ⟨b, off, h, _⟩
      · exact h
      · cases h
    subst hL
    clear h hc
    go_enter Tryz.func141, Tryz.ntmps141
    go_wp2
    go_ret
    exact ⟨none, 0, rfl, Below.refl _ _⟩
  | some ad =>
    have H := Lib.hid h
    clear h hc
    go_enter Tryz.func141, Tryz.ntmps141
    go_wp2_with (first | (at_builtin; (refine OwnR.appendAll el_str rfl (.tmp 5) (.tmp 6) rfl w.heap.size (.slice (some ⟨w.heap.size, 0, none⟩) 0 0) [] L (some ad) cap L.length rfl (OwnR.made0 w 9) (H.out.below ((Below.refl _ _).alloc (Nat.le_refl _) _)) (fun h => by cases h) rfl rfl (by simp) (by simp; omega) (by decide) ?_); intro v2 w2 hO2 hap2; rw [List.nil_append] at hO2; obtain ⟨p1, c1, rfl, -⟩ := hO2.cut rfl))
    go_ret
    exact ⟨p1, c1, rfl, ((Below.refl w.heap.size w).alloc (Nat.le_refl _) _).trans hap2.below⟩

def ParseBad (er : Int) (w : World) (e : Ending) (w' : World) : Prop := e = .returned (.tuple #[.agg #[.int .i64 0, .int .i64 0, .int .i64 0, .slice none 0 0], .slice none 0 0, .int .i64 er]) ∧ Below w.heap.size w w'
def ParseGood (t : Tm) (n : Nat) (w : World) (e : Ending) (w' : World) : Prop := ∃ (row : RT) (p : Option Addr) (c d : Nat), e = .returned (.tuple #[.agg #[.int .i64 row.op, .int .i64 row.num, .int .i64 row.more, .slice row.p row.n row.c], .slice p n c, .int .i64 0]) ∧ TV (NewQ w.heap.size) w' d row t ∧ Below w.heap.size w w'
/-- The term of words, or which error. -/
def ParseTG (o : Option (Tm × List (List UInt8))) (w : World) : Ending → World → Prop :=
  match o with
  | none => ParseBad 4 w
  | some (t, r) => if chkT t = 0 then ParseGood t r.length w else ParseBad (chkT t) w

theorem put4_far (W : World) {b k : Nat} (h : k ≠ b) (x0 x1 x2 x3 : Value) (i : Nat) : (put4 W b x0 x1 x2 x3).cell? ⟨k, i, none⟩ = W.cell? ⟨k, i, none⟩ :=
  World.cell?_of_block (w := W) (a := ⟨k, i, none⟩) ((put4_block W b x0 x1 x2 x3).2 k h)

theorem But.belowN {t B : Nat} {a b : World} (h : But t a b) (hB : B ≤ t) (hs : B ≤ a.heap.size) : Below B a b := h.below hB hs

set_option maxRecDepth 100000 in
set_option maxHeartbeats 8000000 in
theorem parse16_any (p : Option Addr) (ws : List ByteArray) (c : Nat) (w : World) (h : Recs SB w p ws) (hc : ws.length ≤ c) (hp : p = none → c = 0) (hw : ∀ x ∈ ws, x.size ≤ 16384) (hl : ws.length ≤ 1000000) (hE : Env w) (hg : gtop < w.heap.size) :
    Calls Tryz.prog 116 #[.slice p ws.length c] w (ParseTG (readT (2 * ws.length) (ll ws)) w) := by
  have hA1 : Below w.heap.size w (w.alloc (.cells #[.int .i64 0, .int .i64 0, .int .i64 0, .slice none 0 0] 29)) := (Below.refl _ _).alloc (Nat.le_refl _) _
  have hA : Below w.heap.size w ((w.alloc (.cells #[.int .i64 0, .int .i64 0, .int .i64 0, .slice none 0 0] 29)).alloc (.cells #[.slice p ws.length c, .bool false] 155)) := hA1.alloc (by simp) _
  have hz0 : (((w.alloc (.cells #[.int .i64 0, .int .i64 0, .int .i64 0, .slice none 0 0] 29)).alloc (.cells #[.slice p ws.length c, .bool false] 155))).heap.size = w.heap.size + 2 := by simp
  have hfz : ∀ i, (((w.alloc (.cells #[.int .i64 0, .int .i64 0, .int .i64 0, .slice none 0 0] 29)).alloc (.cells #[.slice p ws.length c, .bool false] 155))).frozen? ⟨w.heap.size + 1, i, none⟩ = false := fun i => by
    have e : (((w.alloc (.cells #[.int .i64 0, .int .i64 0, .int .i64 0, .slice none 0 0] 29)).alloc (.cells #[.slice p ws.length c, .bool false] 155))).heap[w.heap.size + 1]? = some (.cells #[.slice p ws.length c, .bool false] 155) := by
      have := World.alloc_heap_new (w.alloc (.cells #[.int .i64 0, .int .i64 0, .int .i64 0, .slice none 0 0] 29)) (.cells #[.slice p ws.length c, .bool false] 155)
      rw [World.size_alloc] at this
      exact this
    simp only [World.frozen?, e]; simp
  have hcl : ∀ i, (((w.alloc (.cells #[.int .i64 0, .int .i64 0, .int .i64 0, .slice none 0 0] 29)).alloc (.cells #[.slice p ws.length c, .bool false] 155))).cell? ⟨w.heap.size + 1, i, none⟩ = #[.slice p ws.length c, .bool false][i]? := fun i => by
    have := World.cell?_alloc_new (w.alloc (.cells #[.int .i64 0, .int .i64 0, .int .i64 0, .slice none 0 0] 29)) #[.slice p ws.length c, .bool false] 155 i
    rw [World.size_alloc] at this
    exact this
  have hR0 : RdAt ((w.alloc (.cells #[.int .i64 0, .int .i64 0, .int .i64 0, .slice none 0 0] 29)).alloc (.cells #[.slice p ws.length c, .bool false] 155)) (w.heap.size + 1) ws false := ⟨⟨p, c, hcl 0, h.below hA, hc, hp, fun a e => by
      by_cases h0 : ws = []
      · exact .inl h0
      · exact .inr (Nat.lt_succ_of_lt (h.lt h0 e))⟩, hcl 1, hfz 0, hfz 1, by rw [hz0]; omega, hw, hl⟩
  have HS0 := Lib.hid ((Res4.new w 29).blk (W' := ((w.alloc (.cells #[.int .i64 0, .int .i64 0, .int .i64 0, .slice none 0 0] 29)).alloc (.cells #[.slice p ws.length c, .bool false] 155))) (by simp) (by
    have : Below (w.alloc (.cells #[.int .i64 0, .int .i64 0, .int .i64 0, .slice none 0 0] 29)).heap.size (w.alloc (.cells #[.int .i64 0, .int .i64 0, .int .i64 0, .slice none 0 0] 29)) ((w.alloc (.cells #[.int .i64 0, .int .i64 0, .int .i64 0, .slice none 0 0] 29)).alloc (.cells #[.slice p ws.length c, .bool false] 155)) := (Below.refl _ _).alloc (Nat.le_refl _) _
    exact this.block _ (by simp)))
  have HTM := Lib.hid (term_all (2 * ws.length) (w.heap.size + 1) ws ((w.alloc (.cells #[.int .i64 0, .int .i64 0, .int .i64 0, .slice none 0 0] 29)).alloc (.cells #[.slice p ws.length c, .bool false] 155)) hR0 (fun W hW => (hE.below hA).but hW (by omega)) (Nat.le_refl _))
  have HA := Lib.hid hA
  have hne : w.heap.size ≠ w.heap.size + 1 := by omega
  unfold TermG at HTM
  obtain ⟨tv, etv⟩ : ∃ tv, readT (2 * ws.length) (ll ws) = tv := ⟨_, rfl⟩
  rw [etv] at HTM ⊢
  clear h hp hw hE hA1 hA hfz hcl hR0 etv
  cases tv with
  | none =>
    show Calls _ _ _ _ (ParseBad 4 w)
    go_enter Tryz.func116, Tryz.ntmps116
    go_wp2_with (first
      | (go_at_call 140; (with_reducible refine Calls.mono HTM.out ?_); rintro e w2 ⟨row, rfl, hb2, hk2⟩; obtain ⟨ws2, hr2⟩ := (show ∃ ws', RdAt w2 (w.heap.size + 1) ws' true from hk2); have HS2 := Lib.hid (HS0.out.but hb2 hne); have HB2 := Lib.hid (HA.out.trans (hb2.below (Nat.le_succ _) (by rw [hz0]; omega))); have hz2 := hb2.size; rw [hz0] at hz2; have hl3 : w.heap.size + 1 < w2.heap.size := (by omega); have j1 := hr2.fl; obtain ⟨k0, k1, k2, k3, f0, f1, f2, f3, hl2⟩ := HS2.out; clear hb2 hk2 hr2)
      | fail)
    have QQ := put4_new HS2.out (.int .i64 0) (.int .i64 0) (.int .i64 0) (.slice none 0 0) (.cells #[.int .i64 row.op, .int .i64 row.num, .int .i64 row.more, .slice row.p row.n row.c] 29)
    have FIN := Lib.hid (HB2.out.trans (((put4_below (Nat.le_refl _) (.int .i64 0) (.int .i64 0) (.int .i64 0) (.slice none 0 0))).alloc (by rw [(put4_block _ _ _ _ _ _).1]; omega) (.cells #[.int .i64 row.op, .int .i64 row.num, .int .i64 row.more, .slice row.p row.n row.c] 29)))
    unfold put4 at QQ FIN
    obtain ⟨q0, q1, q2, q3⟩ := QQ
    clear k0 k1 k2 k3
    exact bodyPost_ret (v := .tuple #[.agg #[.int .i64 0, .int .i64 0, .int .i64 0, .slice none 0 0], .slice none 0 0, .int .i64 4]) (by simp [results, Tryz.results116, go_sem, q0, q1, q2, q3]) rfl ⟨rfl, FIN.out⟩
  | some tr =>
    obtain ⟨t, r⟩ := tr
    have hr2 : ∀ w2 row, TermOk (w.heap.size + 1) (((w.alloc (.cells #[.int .i64 0, .int .i64 0, .int .i64 0, .slice none 0 0] 29)).alloc (.cells #[.slice p ws.length c, .bool false] 155))).heap.size (some (t, r)) row w2 → RdAt w2 (w.heap.size + 1) (r.map bs) false ∧ ∃ d, TV (NewQ (w.heap.size + 2)) w2 d row t := fun w2 row h => by
      have : RdAt w2 (w.heap.size + 1) (r.map bs) false ∧ ∃ d, TV (NewQ (((w.alloc (.cells #[.int .i64 0, .int .i64 0, .int .i64 0, .slice none 0 0] 29)).alloc (.cells #[.slice p ws.length c, .bool false] 155))).heap.size) w2 d row t := h
      rw [hz0] at this
      exact this
    have HR2 := Lib.hid hr2
    clear hr2
    show Calls _ _ _ _ (if chkT t = 0 then ParseGood t r.length w else ParseBad (chkT t) w)
    obtain ⟨ct, ect⟩ : ∃ ct, chkT t = ct := ⟨_, rfl⟩
    have CK := Lib.hid (fun (d : Nat) (row : RT) (W : World) (h : TV (NewQ (w.heap.size + 2)) W d row t) => ect ▸ check16_any d row t W h)
    rw [ect]
    unfold IntG at CK
    by_cases h0 : ct = 0
    rotate_left
    · have hct : (ct != 0) = true := bne_iff_ne.2 h0
      rw [if_neg h0]
      clear ect h0
      go_enter Tryz.func116, Tryz.ntmps116
      go_wp2_with (first | (go_at_call 140; (with_reducible refine Calls.mono HTM.out ?_); rintro e w2 ⟨row, rfl, hb2, hk2⟩; obtain ⟨hr2, d, hv2⟩ := HR2.out w2 row hk2; have HS2 := Lib.hid (HS0.out.but hb2 hne); have HB2 := Lib.hid (HA.out.trans (hb2.below (Nat.le_succ _) (by rw [hz0]; omega))); have hz2 := hb2.size; rw [hz0] at hz2; have hl3 : w.heap.size + 1 < w2.heap.size := (by omega); have j1 := hr2.fl; have HRR := Lib.hid hr2; have HV := Lib.hid hv2; have HA2 := Lib.hid ((Below.refl w2.heap.size w2).alloc (Nat.le_refl _) (.cells #[.int .i64 row.op, .int .i64 row.num, .int .i64 row.more, .slice row.p row.n row.c] 29)); have CK2 := Lib.hid (CK.out d row _ (hv2.below HA2.out)); have hl2 := HS2.out.lt; clear hb2 hk2 hr2 hv2) | (go_at_call 60; (with_reducible refine Calls.mono CK2.out ?_); rintro e w4 ⟨rfl, hb4⟩; have HB24 := Lib.hid (bstep (Nat.le_refl _) HA2.out hb4); have HB4 := Lib.hid (bstep (Nat.le_refl _) HB2.out HB24.out); have HS4 := Lib.hid (HS2.out.blk HB24.out.size (HB24.out.block _ hl2)); have HR4 := Lib.hid (HRR.out.below HB24.out); have HV4 := Lib.hid (HV.out.below HB24.out); have hz4 := HB24.out.size; obtain ⟨k0, k1, k2, k3, f0, f1, f2, f3, hl4⟩ := HS4.out; have t0 := (hb4.cell (p := ⟨w2.heap.size, 0, none⟩) (by simp)).trans (World.cell?_alloc_new _ _ _ _); have t1 := (hb4.cell (p := ⟨w2.heap.size, 1, none⟩) (by simp)).trans (World.cell?_alloc_new _ _ _ _); have t2 := (hb4.cell (p := ⟨w2.heap.size, 2, none⟩) (by simp)).trans (World.cell?_alloc_new _ _ _ _); have t3 := (hb4.cell (p := ⟨w2.heap.size, 3, none⟩) (by simp)).trans (World.cell?_alloc_new _ _ _ _); have hz5 : w2.heap.size < w4.heap.size := (by have := hb4.size; rw [World.size_alloc] at this; omega); clear hb4) | fail)
      have QQ := put4_at HS4.out (.int .i64 0) (.int .i64 0) (.int .i64 0) (.slice none 0 0)
      have FIN := Lib.hid (HB4.out.trans (put4_below (W := w4) (Nat.le_refl w.heap.size) (.int .i64 0) (.int .i64 0) (.int .i64 0) (.slice none 0 0)))
      unfold put4 at QQ FIN
      obtain ⟨q0, q1, q2, q3⟩ := QQ
      clear k0 k1 k2 k3
      exact bodyPost_ret (v := .tuple #[.agg #[.int .i64 0, .int .i64 0, .int .i64 0, .slice none 0 0], .slice none 0 0, .int .i64 ct]) (by simp [results, Tryz.results116, go_sem, q0, q1, q2, q3]) rfl ⟨rfl, FIN.out⟩
    · subst h0
      rw [if_pos rfl]
      clear ect
      go_enter Tryz.func116, Tryz.ntmps116
      go_wp2_with (first | (go_at_call 140; (with_reducible refine Calls.mono HTM.out ?_); rintro e w2 ⟨row, rfl, hb2, hk2⟩; obtain ⟨hr2, d, hv2⟩ := HR2.out w2 row hk2; have HS2 := Lib.hid (HS0.out.but hb2 hne); have HB2 := Lib.hid (HA.out.trans (hb2.below (Nat.le_succ _) (by rw [hz0]; omega))); have hz2 := hb2.size; rw [hz0] at hz2; have hl3 : w.heap.size + 1 < w2.heap.size := (by omega); have j1 := hr2.fl; have HRR := Lib.hid hr2; have HV := Lib.hid hv2; have HA2 := Lib.hid ((Below.refl w2.heap.size w2).alloc (Nat.le_refl _) (.cells #[.int .i64 row.op, .int .i64 row.num, .int .i64 row.more, .slice row.p row.n row.c] 29)); have CK2 := Lib.hid (CK.out d row _ (hv2.below HA2.out)); have hl2 := HS2.out.lt; clear hb2 hk2 hr2 hv2) | (go_at_call 60; (with_reducible refine Calls.mono CK2.out ?_); rintro e w4 ⟨rfl, hb4⟩; have HB24 := Lib.hid (bstep (Nat.le_refl _) HA2.out hb4); have HB4 := Lib.hid (bstep (Nat.le_refl _) HB2.out HB24.out); have HS4 := Lib.hid (HS2.out.blk HB24.out.size (HB24.out.block _ hl2)); have HR4 := Lib.hid (HRR.out.below HB24.out); have HV4 := Lib.hid (HV.out.below HB24.out); have hz4 := HB24.out.size; obtain ⟨k0, k1, k2, k3, f0, f1, f2, f3, hl4⟩ := HS4.out; have t0 := (hb4.cell (p := ⟨w2.heap.size, 0, none⟩) (by simp)).trans (World.cell?_alloc_new _ _ _ _); have t1 := (hb4.cell (p := ⟨w2.heap.size, 1, none⟩) (by simp)).trans (World.cell?_alloc_new _ _ _ _); have t2 := (hb4.cell (p := ⟨w2.heap.size, 2, none⟩) (by simp)).trans (World.cell?_alloc_new _ _ _ _); have t3 := (hb4.cell (p := ⟨w2.heap.size, 3, none⟩) (by simp)).trans (World.cell?_alloc_new _ _ _ _); have hz5 : w2.heap.size < w4.heap.size := (by have := hb4.size; rw [World.size_alloc] at this; omega); clear hb4) | fail)
      obtain ⟨pp, cc, e1, e2, e3, e4, e5⟩ := HR4.out.row
      rw [List.length_map] at e1 e3
      have hrl : r.length ≤ 1000000 := by have := HR4.out.len; rw [List.length_map] at this; exact this
      have CL := Lib.hid (clonestr_any pp (r.map bs) r.length cc w4.drew (List.length_map _) e2.drew e4 hrl)
      clear k0 k1 k2 k3 f0 f1 f2 f3 e2 e4 e5
      go_region_held3 (fun W => W.cell? ⟨w2.heap.size, 0, none⟩ = some (.int .i64 row.op) ∧ W.cell? ⟨w2.heap.size, 1, none⟩ = some (.int .i64 row.num) ∧ W.cell? ⟨w2.heap.size, 2, none⟩ = some (.int .i64 row.more) ∧ W.cell? ⟨w2.heap.size, 3, none⟩ = some (.slice row.p row.n row.c) ∧ W.cell? ⟨w.heap.size + 1, 0, none⟩ = some (.slice pp r.length cc))
        (first | exact ⟨t0, t1, t2, t3, e1⟩ | exact ⟨u0, u1, u2, u3, u4⟩ | exact ⟨v0, v1, v2, v3, v4⟩ | go_keep)
        (first
          | (go_at_call 141; (with_reducible refine Calls.mono CL.out ?_); rintro e w5 ⟨p5, c5, rfl, hb5'⟩; have hb5 := bdrew' hb5'; have u0 := (hb5.cell (p := ⟨w2.heap.size, 0, none⟩) hz5).trans t0; have u1 := (hb5.cell (p := ⟨w2.heap.size, 1, none⟩) hz5).trans t1; have u2 := (hb5.cell (p := ⟨w2.heap.size, 2, none⟩) hz5).trans t2; have u3 := (hb5.cell (p := ⟨w2.heap.size, 3, none⟩) hz5).trans t3; have u4 := (hb5.cell (p := ⟨w.heap.size + 1, 0, none⟩) HR4.out.lt).trans e1; have HS5 := Lib.hid (HS4.out.blk hb5.size (hb5.block _ hl4)); obtain ⟨k0, k1, k2, k3, f0, f1, f2, f3, hl5⟩ := HS5.out; have HB5 := Lib.hid (bstep (Nat.le_refl _) HB4.out hb5); have HV5 := Lib.hid (HV4.out.below hb5); have vv := put4_far w5 (b := w.heap.size) (k := w2.heap.size) (by omega) (.int .i64 row.op) (.int .i64 row.num) (.int .i64 row.more) (.slice row.p row.n row.c); have vr := put4_far w5 (b := w.heap.size) (k := w.heap.size + 1) (by omega) (.int .i64 row.op) (.int .i64 row.num) (.int .i64 row.more) (.slice row.p row.n row.c); have v0 := (vv 0).trans u0; have v1 := (vv 1).trans u1; have v2 := (vv 2).trans u2; have v3 := (vv 3).trans u3; have v4 := (vr 0).trans u4; clear vv vr; unfold put4 at v0 v1 v2 v3 v4)
          | fail)
      go_wp2
      have QQ := put4_at HS5.out (.int .i64 row.op) (.int .i64 row.num) (.int .i64 row.more) (.slice row.p row.n row.c)
      have hbl := put4_block w5 w.heap.size (.int .i64 row.op) (.int .i64 row.num) (.int .i64 row.more) (.slice row.p row.n row.c)
      have FIN := Lib.hid (HB5.out.trans (put4_below (W := w5) (Nat.le_refl w.heap.size) (.int .i64 row.op) (.int .i64 row.num) (.int .i64 row.more) (.slice row.p row.n row.c)))
      have FV := Lib.hid (HV5.out.change (Q' := NewQ w.heap.size) (w' := put4 w5 w.heap.size (.int .i64 row.op) (.int .i64 row.num) (.int .i64 row.more) (.slice row.p row.n row.c)) (by rw [hbl.1]; exact Nat.le_refl _) fun b hq _ => ⟨hbl.2 b (by unfold NewQ at hq; omega), by unfold NewQ at *; omega⟩)
      unfold put4 at QQ FIN FV
      obtain ⟨q0, q1, q2, q3⟩ := QQ
      clear k0 k1 k2 k3 hbl
      exact bodyPost_ret (v := .tuple #[.agg #[.int .i64 row.op, .int .i64 row.num, .int .i64 row.more, .slice row.p row.n row.c], .slice p5 r.length c5, .int .i64 0]) (by simp [results, Tryz.results116, go_sem, q0, q1, q2, q3]) rfl ⟨row, p5, c5, d, rfl, FV.out, FIN.out⟩

end Go.Proofs.YtflcdkibjakciaaGreatDoor
