/-
  MERGED (mergek.py): the texts T13b, T13c.
-/
import Derived.Test.YtflcdkibjakciaaGreatDoorM21

namespace Go.Proofs.YtflcdkibjakciaaGreatDoor
open Go.RowKit Te

set_option maxRecDepth 100000 in
set_option maxHeartbeats 16000000 in
theorem term_op4 {f : Nat} (rd : Nat) (x : ByteArray) (rs : List ByteArray) (w : World) (h : RdAt w rd (x :: rs) false) (hE : ∀ W, But rd w W → Env W) (eo : opOf x.data.toList = 4) : Calls Tryz.prog 140 #[.pointer (some ⟨rd, 0, none⟩)] w (TermG rd (readT (f + 1) (ll (x :: rs))) w) := by
  have hlt := h.lt
  have hne : w.heap.size ≠ rd := by omega
  have hA : Below w.heap.size w (w.alloc (.cells #[.int .i64 0, .int .i64 0, .int .i64 0, .slice none 0 0] 29)) := (Below.refl _ _).alloc (Nat.le_refl _) _
  have WD := Lib.hid (rdword_any rd (x :: rs) false _ (h.below hA))
  have HS := Lib.hid (Res4.new w 29)
  have HB0 := Lib.hid (But.of_below (t := rd) hA)
  have HE := Lib.hid (fun (W W' : World) (hb : But rd w W) (hb2 : But rd W W') => hE W' (hb.trans hb2))
  unfold WordG at WD
  have hlen := h.len
  have hx := ba_word (opOf_word eo (by decide))
  have WD := Lib.hid (show Calls Tryz.prog 155 #[.pointer (some ⟨rd, 0, none⟩)] ((w.alloc (.cells #[.int .i64 0, .int .i64 0, .int .i64 0, .slice none 0 0] 29))) (fun e w' => e = .returned (.string ⟨#[109, 97, 114, 107]⟩) ∧ RdAt w' rd rs false ∧ But rd ((w.alloc (.cells #[.int .i64 0, .int .i64 0, .int .i64 0, .slice none 0 0] 29))) w') from hx ▸ WD.out)
  rw [readT_mark (f := f) (rs := rs) eo]
  have NM := Lib.hid (fun (W : World) (hR : RdAt W rd rs false) (hb : But rd w W) => rdmark_any rd rs false W hR)
  unfold NumRG at NM
  obtain ⟨nv, env⟩ : ∃ nv, letter (hdW rs).data.toList = nv := ⟨_, rfl⟩
  rw [env] at NM ⊢
  clear h hE hA eo hx env HE
  cases nv with
  | none =>
    have NM := Lib.hid (fun (W : World) (hR : RdAt W rd rs false) (hb : But rd w W) => show Calls Tryz.prog 157 #[.pointer (some ⟨rd, 0, none⟩)] W (fun e w' => e = .returned (.int .i64 0) ∧ RdAt w' rd rs.tail true ∧ But rd W w') from NM.out W hR hb)
    go_enter Tryz.func140, Tryz.ntmps140
    go_wp2_with (first | (go_at_call 155; (with_reducible refine Calls.mono WD.out ?_); rintro e w1 ⟨rfl, hr1, hb1⟩; have HR1 := Lib.hid hr1; have HS1 := Lib.hid (HS.out.but hb1 hne); have HB1 := Lib.hid (HB0.out.trans hb1); have hz1 := hb1.size; rw [World.size_alloc] at hz1; clear hr1 hb1; obtain ⟨k0, k1, k2, k3, f0, f1, f2, f3, hl1⟩ := HS1.out; have j1 := HR1.out.fl; have j2 := HR1.out.f1; have j3 := HR1.out.lt) | (go_at_call 157; (with_reducible refine Calls.mono (NM.out _ HR1.out HB1.out) ?_); clear k0 k1 k2 k3 f0 f1 f2 f3; rintro e w2 ⟨rfl, hr2, hb2⟩; have HR2 := Lib.hid hr2; have HS2 := Lib.hid (HS1.out.but hb2 hne); have HB2 := Lib.hid (HB1.out.trans hb2); have hz2 := hb2.size; obtain ⟨k0, k1, k2, k3, f0, f1, f2, f3, hl2⟩ := HS2.out; clear hr2 hb2) | fail)
    have QQ := put4_at HS2.out (.int .i64 4) (.int .i64 0) (.int .i64 0) (.slice none 0 0)
    have FIN := Lib.hid (term_none ⟨4, 0, 0, none, 0, 0⟩ hlt HB2.out HR2.out)
    unfold put4 at QQ FIN
    obtain ⟨q0, q1, q2, q3⟩ := QQ
    clear k0 k1 k2 k3
    exact bodyPost_ret (v := .agg #[.int .i64 4, .int .i64 0, .int .i64 0, .slice none 0 0]) (by simp [results, Tryz.results140, go_sem, q0, q1, q2, q3]) rfl FIN.out
  | some v =>
    have NM := Lib.hid (fun (W : World) (hR : RdAt W rd rs false) (hb : But rd w W) => show Calls Tryz.prog 157 #[.pointer (some ⟨rd, 0, none⟩)] W (fun e w' => e = .returned (.int .i64 v) ∧ RdAt w' rd rs.tail false ∧ But rd W w') from NM.out W hR hb)
    go_enter Tryz.func140, Tryz.ntmps140
    go_wp2_with (first | (go_at_call 155; (with_reducible refine Calls.mono WD.out ?_); rintro e w1 ⟨rfl, hr1, hb1⟩; have HR1 := Lib.hid hr1; have HS1 := Lib.hid (HS.out.but hb1 hne); have HB1 := Lib.hid (HB0.out.trans hb1); have hz1 := hb1.size; rw [World.size_alloc] at hz1; clear hr1 hb1; obtain ⟨k0, k1, k2, k3, f0, f1, f2, f3, hl1⟩ := HS1.out; have j1 := HR1.out.fl; have j2 := HR1.out.f1; have j3 := HR1.out.lt) | (go_at_call 157; (with_reducible refine Calls.mono (NM.out _ HR1.out HB1.out) ?_); clear k0 k1 k2 k3 f0 f1 f2 f3; rintro e w2 ⟨rfl, hr2, hb2⟩; have HR2 := Lib.hid hr2; have HS2 := Lib.hid (HS1.out.but hb2 hne); have HB2 := Lib.hid (HB1.out.trans hb2); have hz2 := hb2.size; obtain ⟨k0, k1, k2, k3, f0, f1, f2, f3, hl2⟩ := HS2.out; clear hr2 hb2) | fail)
    have QQ := put4_at HS2.out (.int .i64 4) (.int .i64 v) (.int .i64 0) (.slice none 0 0)
    have FIN := Lib.hid (term_some (t := .mk 4 v 0 []) (r := ll rs.tail) (row := ⟨4, v, 0, none, 0, 0⟩) hlt HB2.out (by rw [bs_ll]; exact HR2.out) (TV.leaf _ _ 4 v 0))
    unfold put4 at QQ FIN
    obtain ⟨q0, q1, q2, q3⟩ := QQ
    clear k0 k1 k2 k3
    exact bodyPost_ret (v := .agg #[.int .i64 4, .int .i64 v, .int .i64 0, .slice none 0 0]) (by simp [results, Tryz.results140, go_sem, q0, q1, q2, q3]) rfl FIN.out

set_option maxRecDepth 100000 in
set_option maxHeartbeats 16000000 in
theorem term_op7 {f : Nat} (rd : Nat) (x : ByteArray) (rs : List ByteArray) (w : World) (h : RdAt w rd (x :: rs) false) (hE : ∀ W, But rd w W → Env W) (eo : opOf x.data.toList = 7) : Calls Tryz.prog 140 #[.pointer (some ⟨rd, 0, none⟩)] w (TermG rd (readT (f + 1) (ll (x :: rs))) w) := by
  have hlt := h.lt
  have hne : w.heap.size ≠ rd := by omega
  have hA : Below w.heap.size w (w.alloc (.cells #[.int .i64 0, .int .i64 0, .int .i64 0, .slice none 0 0] 29)) := (Below.refl _ _).alloc (Nat.le_refl _) _
  have WD := Lib.hid (rdword_any rd (x :: rs) false _ (h.below hA))
  have HS := Lib.hid (Res4.new w 29)
  have HB0 := Lib.hid (But.of_below (t := rd) hA)
  have HE := Lib.hid (fun (W W' : World) (hb : But rd w W) (hb2 : But rd W W') => hE W' (hb.trans hb2))
  unfold WordG at WD
  have hlen := h.len
  have hx := ba_word (opOf_word eo (by decide))
  have WD := Lib.hid (show Calls Tryz.prog 155 #[.pointer (some ⟨rd, 0, none⟩)] ((w.alloc (.cells #[.int .i64 0, .int .i64 0, .int .i64 0, .slice none 0 0] 29))) (fun e w' => e = .returned (.string ⟨#[98, 101, 102, 111, 114, 101]⟩) ∧ RdAt w' rd rs false ∧ But rd ((w.alloc (.cells #[.int .i64 0, .int .i64 0, .int .i64 0, .slice none 0 0] 29))) w') from hx ▸ WD.out)
  rw [readT_before (f := f) (rs := rs) eo]
  have NM := Lib.hid (fun (W : World) (hR : RdAt W rd rs false) (hb : But rd w W) => rdnumber_any rd rs false W hR (fun W2 hb2 => HE.out W W2 hb hb2))
  have MM := Lib.hid (fun (W : World) (fl : Bool) (hR : RdAt W rd rs.tail fl) => rdmark_any rd rs.tail fl W hR)
  unfold NumRG at NM MM
  obtain ⟨nv, env⟩ : ∃ nv, numM (hdW rs).data.toList = nv := ⟨_, rfl⟩
  obtain ⟨mv, emv⟩ : ∃ mv, letter (hdW rs.tail).data.toList = mv := ⟨_, rfl⟩
  rw [env] at NM ⊢
  rw [emv] at MM ⊢
  clear h hE hA eo hx env emv HE
  cases nv with
  | none =>
    cases mv with
    | none =>
      have NM := Lib.hid (fun (W : World) (hR : RdAt W rd rs false) (hb : But rd w W) => show Calls Tryz.prog 156 #[.pointer (some ⟨rd, 0, none⟩)] W (fun e w' => e = .returned (.int .i64 0) ∧ RdAt w' rd rs.tail true ∧ But rd W w') from NM.out W hR hb)
      have MM := Lib.hid (fun (W : World) (hR : RdAt W rd rs.tail true) => show Calls Tryz.prog 157 #[.pointer (some ⟨rd, 0, none⟩)] W (fun e w' => e = .returned (.int .i64 0) ∧ RdAt w' rd rs.tail.tail true ∧ But rd W w') from MM.out W true hR)
      go_enter Tryz.func140, Tryz.ntmps140
      go_wp2_with (first | (go_at_call 155; (with_reducible refine Calls.mono WD.out ?_); rintro e w1 ⟨rfl, hr1, hb1⟩; have HR1 := Lib.hid hr1; have HS1 := Lib.hid (HS.out.but hb1 hne); have HB1 := Lib.hid (HB0.out.trans hb1); have hz1 := hb1.size; rw [World.size_alloc] at hz1; clear hr1 hb1; obtain ⟨k0, k1, k2, k3, f0, f1, f2, f3, hl1⟩ := HS1.out; have j1 := HR1.out.fl; have j2 := HR1.out.f1; have j3 := HR1.out.lt) | (go_at_call 156; (with_reducible refine Calls.mono (NM.out _ HR1.out HB1.out) ?_); clear k0 k1 k2 k3 f0 f1 f2 f3; rintro e w2 ⟨rfl, hr2, hb2⟩; have HR2 := Lib.hid hr2; have HS2 := Lib.hid (HS1.out.but hb2 hne); have HB2 := Lib.hid (HB1.out.trans hb2); have hz2 := hb2.size; obtain ⟨k0, k1, k2, k3, f0, f1, f2, f3, hl2⟩ := HS2.out; clear hr2 hb2) | (go_at_call 157; (with_reducible refine Calls.mono (MM.out _ HR2.out) ?_); clear k0 k1 k2 k3 f0 f1 f2 f3; rintro e w3 ⟨rfl, hr3, hb3⟩; have HR3 := Lib.hid hr3; have HS3 := Lib.hid (HS2.out.but hb3 hne); have HB3 := Lib.hid (HB2.out.trans hb3); have hz3 := hb3.size; obtain ⟨k0, k1, k2, k3, f0, f1, f2, f3, hl3⟩ := HS3.out; clear hr3 hb3) | fail)
      have QQ := put4_at HS3.out (.int .i64 7) (.int .i64 0) (.int .i64 0) (.slice none 0 0)
      have FIN := Lib.hid (term_none ⟨7, 0, 0, none, 0, 0⟩ hlt HB3.out HR3.out)
      unfold put4 at QQ FIN
      obtain ⟨q0, q1, q2, q3⟩ := QQ
      clear k0 k1 k2 k3
      exact bodyPost_ret (v := .agg #[.int .i64 7, .int .i64 0, .int .i64 0, .slice none 0 0]) (by simp [results, Tryz.results140, go_sem, q0, q1, q2, q3]) rfl FIN.out
    | some m =>
      have NM := Lib.hid (fun (W : World) (hR : RdAt W rd rs false) (hb : But rd w W) => show Calls Tryz.prog 156 #[.pointer (some ⟨rd, 0, none⟩)] W (fun e w' => e = .returned (.int .i64 0) ∧ RdAt w' rd rs.tail true ∧ But rd W w') from NM.out W hR hb)
      have MM := Lib.hid (fun (W : World) (hR : RdAt W rd rs.tail true) => show Calls Tryz.prog 157 #[.pointer (some ⟨rd, 0, none⟩)] W (fun e w' => e = .returned (.int .i64 m) ∧ RdAt w' rd rs.tail.tail true ∧ But rd W w') from MM.out W true hR)
      go_enter Tryz.func140, Tryz.ntmps140
      go_wp2_with (first | (go_at_call 155; (with_reducible refine Calls.mono WD.out ?_); rintro e w1 ⟨rfl, hr1, hb1⟩; have HR1 := Lib.hid hr1; have HS1 := Lib.hid (HS.out.but hb1 hne); have HB1 := Lib.hid (HB0.out.trans hb1); have hz1 := hb1.size; rw [World.size_alloc] at hz1; clear hr1 hb1; obtain ⟨k0, k1, k2, k3, f0, f1, f2, f3, hl1⟩ := HS1.out; have j1 := HR1.out.fl; have j2 := HR1.out.f1; have j3 := HR1.out.lt) | (go_at_call 156; (with_reducible refine Calls.mono (NM.out _ HR1.out HB1.out) ?_); clear k0 k1 k2 k3 f0 f1 f2 f3; rintro e w2 ⟨rfl, hr2, hb2⟩; have HR2 := Lib.hid hr2; have HS2 := Lib.hid (HS1.out.but hb2 hne); have HB2 := Lib.hid (HB1.out.trans hb2); have hz2 := hb2.size; obtain ⟨k0, k1, k2, k3, f0, f1, f2, f3, hl2⟩ := HS2.out; clear hr2 hb2) | (go_at_call 157; (with_reducible refine Calls.mono (MM.out _ HR2.out) ?_); clear k0 k1 k2 k3 f0 f1 f2 f3; rintro e w3 ⟨rfl, hr3, hb3⟩; have HR3 := Lib.hid hr3; have HS3 := Lib.hid (HS2.out.but hb3 hne); have HB3 := Lib.hid (HB2.out.trans hb3); have hz3 := hb3.size; obtain ⟨k0, k1, k2, k3, f0, f1, f2, f3, hl3⟩ := HS3.out; clear hr3 hb3) | fail)
      have QQ := put4_at HS3.out (.int .i64 7) (.int .i64 0) (.int .i64 m) (.slice none 0 0)
      have FIN := Lib.hid (term_none ⟨7, 0, m, none, 0, 0⟩ hlt HB3.out HR3.out)
      unfold put4 at QQ FIN
      obtain ⟨q0, q1, q2, q3⟩ := QQ
      clear k0 k1 k2 k3
      exact bodyPost_ret (v := .agg #[.int .i64 7, .int .i64 0, .int .i64 m, .slice none 0 0]) (by simp [results, Tryz.results140, go_sem, q0, q1, q2, q3]) rfl FIN.out
  | some v =>
    cases mv with
    | none =>
      have NM := Lib.hid (fun (W : World) (hR : RdAt W rd rs false) (hb : But rd w W) => show Calls Tryz.prog 156 #[.pointer (some ⟨rd, 0, none⟩)] W (fun e w' => e = .returned (.int .i64 v) ∧ RdAt w' rd rs.tail false ∧ But rd W w') from NM.out W hR hb)
      have MM := Lib.hid (fun (W : World) (hR : RdAt W rd rs.tail false) => show Calls Tryz.prog 157 #[.pointer (some ⟨rd, 0, none⟩)] W (fun e w' => e = .returned (.int .i64 0) ∧ RdAt w' rd rs.tail.tail true ∧ But rd W w') from MM.out W false hR)
      go_enter Tryz.func140, Tryz.ntmps140
      go_wp2_with (first | (go_at_call 155; (with_reducible refine Calls.mono WD.out ?_); rintro e w1 ⟨rfl, hr1, hb1⟩; have HR1 := Lib.hid hr1; have HS1 := Lib.hid (HS.out.but hb1 hne); have HB1 := Lib.hid (HB0.out.trans hb1); have hz1 := hb1.size; rw [World.size_alloc] at hz1; clear hr1 hb1; obtain ⟨k0, k1, k2, k3, f0, f1, f2, f3, hl1⟩ := HS1.out; have j1 := HR1.out.fl; have j2 := HR1.out.f1; have j3 := HR1.out.lt) | (go_at_call 156; (with_reducible refine Calls.mono (NM.out _ HR1.out HB1.out) ?_); clear k0 k1 k2 k3 f0 f1 f2 f3; rintro e w2 ⟨rfl, hr2, hb2⟩; have HR2 := Lib.hid hr2; have HS2 := Lib.hid (HS1.out.but hb2 hne); have HB2 := Lib.hid (HB1.out.trans hb2); have hz2 := hb2.size; obtain ⟨k0, k1, k2, k3, f0, f1, f2, f3, hl2⟩ := HS2.out; clear hr2 hb2) | (go_at_call 157; (with_reducible refine Calls.mono (MM.out _ HR2.out) ?_); clear k0 k1 k2 k3 f0 f1 f2 f3; rintro e w3 ⟨rfl, hr3, hb3⟩; have HR3 := Lib.hid hr3; have HS3 := Lib.hid (HS2.out.but hb3 hne); have HB3 := Lib.hid (HB2.out.trans hb3); have hz3 := hb3.size; obtain ⟨k0, k1, k2, k3, f0, f1, f2, f3, hl3⟩ := HS3.out; clear hr3 hb3) | fail)
      have QQ := put4_at HS3.out (.int .i64 7) (.int .i64 v) (.int .i64 0) (.slice none 0 0)
      have FIN := Lib.hid (term_none ⟨7, v, 0, none, 0, 0⟩ hlt HB3.out HR3.out)
      unfold put4 at QQ FIN
      obtain ⟨q0, q1, q2, q3⟩ := QQ
      clear k0 k1 k2 k3
      exact bodyPost_ret (v := .agg #[.int .i64 7, .int .i64 v, .int .i64 0, .slice none 0 0]) (by simp [results, Tryz.results140, go_sem, q0, q1, q2, q3]) rfl FIN.out
    | some m =>
      have NM := Lib.hid (fun (W : World) (hR : RdAt W rd rs false) (hb : But rd w W) => show Calls Tryz.prog 156 #[.pointer (some ⟨rd, 0, none⟩)] W (fun e w' => e = .returned (.int .i64 v) ∧ RdAt w' rd rs.tail false ∧ But rd W w') from NM.out W hR hb)
      have MM := Lib.hid (fun (W : World) (hR : RdAt W rd rs.tail false) => show Calls Tryz.prog 157 #[.pointer (some ⟨rd, 0, none⟩)] W (fun e w' => e = .returned (.int .i64 m) ∧ RdAt w' rd rs.tail.tail false ∧ But rd W w') from MM.out W false hR)
      go_enter Tryz.func140, Tryz.ntmps140
      go_wp2_with (first | (go_at_call 155; (with_reducible refine Calls.mono WD.out ?_); rintro e w1 ⟨rfl, hr1, hb1⟩; have HR1 := Lib.hid hr1; have HS1 := Lib.hid (HS.out.but hb1 hne); have HB1 := Lib.hid (HB0.out.trans hb1); have hz1 := hb1.size; rw [World.size_alloc] at hz1; clear hr1 hb1; obtain ⟨k0, k1, k2, k3, f0, f1, f2, f3, hl1⟩ := HS1.out; have j1 := HR1.out.fl; have j2 := HR1.out.f1; have j3 := HR1.out.lt) | (go_at_call 156; (with_reducible refine Calls.mono (NM.out _ HR1.out HB1.out) ?_); clear k0 k1 k2 k3 f0 f1 f2 f3; rintro e w2 ⟨rfl, hr2, hb2⟩; have HR2 := Lib.hid hr2; have HS2 := Lib.hid (HS1.out.but hb2 hne); have HB2 := Lib.hid (HB1.out.trans hb2); have hz2 := hb2.size; obtain ⟨k0, k1, k2, k3, f0, f1, f2, f3, hl2⟩ := HS2.out; clear hr2 hb2) | (go_at_call 157; (with_reducible refine Calls.mono (MM.out _ HR2.out) ?_); clear k0 k1 k2 k3 f0 f1 f2 f3; rintro e w3 ⟨rfl, hr3, hb3⟩; have HR3 := Lib.hid hr3; have HS3 := Lib.hid (HS2.out.but hb3 hne); have HB3 := Lib.hid (HB2.out.trans hb3); have hz3 := hb3.size; obtain ⟨k0, k1, k2, k3, f0, f1, f2, f3, hl3⟩ := HS3.out; clear hr3 hb3) | fail)
      have QQ := put4_at HS3.out (.int .i64 7) (.int .i64 v) (.int .i64 m) (.slice none 0 0)
      have FIN := Lib.hid (term_some (t := .mk 7 v m []) (r := ll rs.tail.tail) (row := ⟨7, v, m, none, 0, 0⟩) hlt HB3.out (by rw [bs_ll]; exact HR3.out) (TV.leaf _ _ 7 v m))
      unfold put4 at QQ FIN
      obtain ⟨q0, q1, q2, q3⟩ := QQ
      clear k0 k1 k2 k3
      exact bodyPost_ret (v := .agg #[.int .i64 7, .int .i64 v, .int .i64 m, .slice none 0 0]) (by simp [results, Tryz.results140, go_sem, q0, q1, q2, q3]) rfl FIN.out

end Go.Proofs.YtflcdkibjakciaaGreatDoor

namespace Go.Proofs.YtflcdkibjakciaaGreatDoor
open Go.RowKit Te

set_option maxRecDepth 100000 in
set_option maxHeartbeats 16000000 in
theorem term_op9 {f : Nat} (HL : ListAtR f) (rd : Nat) (x : ByteArray) (rs : List ByteArray) (w : World) (h : RdAt w rd (x :: rs) false) (hE : ∀ W, But rd w W → Env W) (hf2 : 2 * rs.length + 1 ≤ f) (eo : opOf x.data.toList = 9) : Calls Tryz.prog 140 #[.pointer (some ⟨rd, 0, none⟩)] w (TermG rd (readT (f + 1) (ll (x :: rs))) w) := by
  have hlt := h.lt
  have hne : w.heap.size ≠ rd := by omega
  have hA : Below w.heap.size w (w.alloc (.cells #[.int .i64 0, .int .i64 0, .int .i64 0, .slice none 0 0] 29)) := (Below.refl _ _).alloc (Nat.le_refl _) _
  have WD := Lib.hid (rdword_any rd (x :: rs) false _ (h.below hA))
  have HS := Lib.hid (Res4.new w 29)
  have HB0 := Lib.hid (But.of_below (t := rd) hA)
  have HE := Lib.hid (fun (W W' : World) (hb : But rd w W) (hb2 : But rd W W') => hE W' (hb.trans hb2))
  unfold WordG at WD
  have hlen := h.len
  have hx := ba_word (opOf_word eo (by decide))
  have WD := Lib.hid (show Calls Tryz.prog 155 #[.pointer (some ⟨rd, 0, none⟩)] ((w.alloc (.cells #[.int .i64 0, .int .i64 0, .int .i64 0, .slice none 0 0] 29))) (fun e w' => e = .returned (.string ⟨#[97, 110, 100]⟩) ∧ RdAt w' rd rs false ∧ But rd ((w.alloc (.cells #[.int .i64 0, .int .i64 0, .int .i64 0, .slice none 0 0] 29))) w') from hx ▸ WD.out)
  rw [readT_list (f := f) (rs := rs) 9 eo (by decide)]
  have LS := Lib.hid (fun (W : World) (hR : RdAt W rd rs false) (hb : But rd w W) => HL rd rs W hR (fun W2 hb2 => HE.out W W2 hb hb2) (by omega))
  unfold ListG at LS
  obtain ⟨lv, elv⟩ : ∃ lv, listR f (ll rs) = lv := ⟨_, rfl⟩
  rw [elv] at LS ⊢
  clear h hE HL hA eo hx elv HE
  cases lv with
  | none =>
    go_enter Tryz.func140, Tryz.ntmps140
    go_wp2_with (first | (go_at_call 155; (with_reducible refine Calls.mono WD.out ?_); rintro e w1 ⟨rfl, hr1, hb1⟩; have HR1 := Lib.hid hr1; have HS1 := Lib.hid (HS.out.but hb1 hne); have HB1 := Lib.hid (HB0.out.trans hb1); have hz1 := hb1.size; rw [World.size_alloc] at hz1; clear hr1 hb1; obtain ⟨k0, k1, k2, k3, f0, f1, f2, f3, hl1⟩ := HS1.out; have j1 := HR1.out.fl; have j2 := HR1.out.f1; have j3 := HR1.out.lt) | (go_at_call 158; (with_reducible refine Calls.mono (LS.out _ HR1.out HB1.out) ?_); clear k0 k1 k2 k3 f0 f1 f2 f3; rintro e w2 ⟨pp, pn, pc, rfl, hb2, hk2⟩; have HK2 := Lib.hid hk2; have HS2 := Lib.hid (HS1.out.but hb2 hne); have HB2 := Lib.hid (HB1.out.trans hb2); have hz2 := hb2.size; obtain ⟨k0, k1, k2, k3, f0, f1, f2, f3, hl2⟩ := HS2.out; clear hk2 hb2) | fail)
    obtain ⟨ws2, hr2⟩ := (show ∃ ws', RdAt w2 rd ws' true from HK2.out)
    have QQ := put4_at HS2.out (.int .i64 9) (.int .i64 0) (.int .i64 0) (.slice pp pn pc)
    have FIN := Lib.hid (term_none ⟨9, 0, 0, pp, pn, pc⟩ hlt HB2.out hr2)
    unfold put4 at QQ FIN
    obtain ⟨q0, q1, q2, q3⟩ := QQ
    clear k0 k1 k2 k3
    exact bodyPost_ret (v := .agg #[.int .i64 9, .int .i64 0, .int .i64 0, .slice pp pn pc]) (by simp [results, Tryz.results140, go_sem, q0, q1, q2, q3]) rfl FIN.out
  | some kr =>
    obtain ⟨K, r2⟩ := kr
    go_enter Tryz.func140, Tryz.ntmps140
    go_wp2_with (first | (go_at_call 155; (with_reducible refine Calls.mono WD.out ?_); rintro e w1 ⟨rfl, hr1, hb1⟩; have HR1 := Lib.hid hr1; have HS1 := Lib.hid (HS.out.but hb1 hne); have HB1 := Lib.hid (HB0.out.trans hb1); have hz1 := hb1.size; rw [World.size_alloc] at hz1; clear hr1 hb1; obtain ⟨k0, k1, k2, k3, f0, f1, f2, f3, hl1⟩ := HS1.out; have j1 := HR1.out.fl; have j2 := HR1.out.f1; have j3 := HR1.out.lt) | (go_at_call 158; (with_reducible refine Calls.mono (LS.out _ HR1.out HB1.out) ?_); clear k0 k1 k2 k3 f0 f1 f2 f3; rintro e w2 ⟨pp, pn, pc, rfl, hb2, hk2⟩; have HK2 := Lib.hid hk2; have HS2 := Lib.hid (HS1.out.but hb2 hne); have HB2 := Lib.hid (HB1.out.trans hb2); have hz2 := hb2.size; obtain ⟨k0, k1, k2, k3, f0, f1, f2, f3, hl2⟩ := HS2.out; clear hk2 hb2) | fail)
    obtain ⟨hr2, e1, e2, e3, d, e4⟩ := (show RdAt w2 rd (r2.map bs) false ∧ pn = K.length ∧ pn ≤ pc ∧ (pp = none → pc = 0) ∧ ∃ d, TmsAt (NewQ w1.heap.size) w2 d pp K from HK2.out)
    have hv : TV (NewQ (w.heap.size + 1)) w2 d ⟨9, 0, 0, pp, pn, pc⟩ (.mk 9 0 0 K) := ⟨⟨rfl, rfl, rfl, e1, e2, e3⟩, e4.change (Nat.le_refl _) fun b hq _ => ⟨rfl, by unfold NewQ at *; omega⟩⟩
    have QQ := put4_at HS2.out (.int .i64 9) (.int .i64 0) (.int .i64 0) (.slice pp pn pc)
    have FIN := Lib.hid (term_some (row := ⟨9, 0, 0, pp, pn, pc⟩) hlt HB2.out hr2 hv)
    unfold put4 at QQ FIN
    obtain ⟨q0, q1, q2, q3⟩ := QQ
    clear k0 k1 k2 k3
    exact bodyPost_ret (v := .agg #[.int .i64 9, .int .i64 0, .int .i64 0, .slice pp pn pc]) (by simp [results, Tryz.results140, go_sem, q0, q1, q2, q3]) rfl FIN.out

set_option maxRecDepth 100000 in
set_option maxHeartbeats 16000000 in
theorem term_op10 {f : Nat} (HL : ListAtR f) (rd : Nat) (x : ByteArray) (rs : List ByteArray) (w : World) (h : RdAt w rd (x :: rs) false) (hE : ∀ W, But rd w W → Env W) (hf2 : 2 * rs.length + 1 ≤ f) (eo : opOf x.data.toList = 10) : Calls Tryz.prog 140 #[.pointer (some ⟨rd, 0, none⟩)] w (TermG rd (readT (f + 1) (ll (x :: rs))) w) := by
  have hlt := h.lt
  have hne : w.heap.size ≠ rd := by omega
  have hA : Below w.heap.size w (w.alloc (.cells #[.int .i64 0, .int .i64 0, .int .i64 0, .slice none 0 0] 29)) := (Below.refl _ _).alloc (Nat.le_refl _) _
  have WD := Lib.hid (rdword_any rd (x :: rs) false _ (h.below hA))
  have HS := Lib.hid (Res4.new w 29)
  have HB0 := Lib.hid (But.of_below (t := rd) hA)
  have HE := Lib.hid (fun (W W' : World) (hb : But rd w W) (hb2 : But rd W W') => hE W' (hb.trans hb2))
  unfold WordG at WD
  have hlen := h.len
  have hx := ba_word (opOf_word eo (by decide))
  have WD := Lib.hid (show Calls Tryz.prog 155 #[.pointer (some ⟨rd, 0, none⟩)] ((w.alloc (.cells #[.int .i64 0, .int .i64 0, .int .i64 0, .slice none 0 0] 29))) (fun e w' => e = .returned (.string ⟨#[111, 114]⟩) ∧ RdAt w' rd rs false ∧ But rd ((w.alloc (.cells #[.int .i64 0, .int .i64 0, .int .i64 0, .slice none 0 0] 29))) w') from hx ▸ WD.out)
  rw [readT_list (f := f) (rs := rs) 10 eo (by decide)]
  have LS := Lib.hid (fun (W : World) (hR : RdAt W rd rs false) (hb : But rd w W) => HL rd rs W hR (fun W2 hb2 => HE.out W W2 hb hb2) (by omega))
  unfold ListG at LS
  obtain ⟨lv, elv⟩ : ∃ lv, listR f (ll rs) = lv := ⟨_, rfl⟩
  rw [elv] at LS ⊢
  clear h hE HL hA eo hx elv HE
  cases lv with
  | none =>
    go_enter Tryz.func140, Tryz.ntmps140
    go_wp2_with (first | (go_at_call 155; (with_reducible refine Calls.mono WD.out ?_); rintro e w1 ⟨rfl, hr1, hb1⟩; have HR1 := Lib.hid hr1; have HS1 := Lib.hid (HS.out.but hb1 hne); have HB1 := Lib.hid (HB0.out.trans hb1); have hz1 := hb1.size; rw [World.size_alloc] at hz1; clear hr1 hb1; obtain ⟨k0, k1, k2, k3, f0, f1, f2, f3, hl1⟩ := HS1.out; have j1 := HR1.out.fl; have j2 := HR1.out.f1; have j3 := HR1.out.lt) | (go_at_call 158; (with_reducible refine Calls.mono (LS.out _ HR1.out HB1.out) ?_); clear k0 k1 k2 k3 f0 f1 f2 f3; rintro e w2 ⟨pp, pn, pc, rfl, hb2, hk2⟩; have HK2 := Lib.hid hk2; have HS2 := Lib.hid (HS1.out.but hb2 hne); have HB2 := Lib.hid (HB1.out.trans hb2); have hz2 := hb2.size; obtain ⟨k0, k1, k2, k3, f0, f1, f2, f3, hl2⟩ := HS2.out; clear hk2 hb2) | fail)
    obtain ⟨ws2, hr2⟩ := (show ∃ ws', RdAt w2 rd ws' true from HK2.out)
    have QQ := put4_at HS2.out (.int .i64 10) (.int .i64 0) (.int .i64 0) (.slice pp pn pc)
    have FIN := Lib.hid (term_none ⟨10, 0, 0, pp, pn, pc⟩ hlt HB2.out hr2)
    unfold put4 at QQ FIN
    obtain ⟨q0, q1, q2, q3⟩ := QQ
    clear k0 k1 k2 k3
    exact bodyPost_ret (v := .agg #[.int .i64 10, .int .i64 0, .int .i64 0, .slice pp pn pc]) (by simp [results, Tryz.results140, go_sem, q0, q1, q2, q3]) rfl FIN.out
  | some kr =>
    obtain ⟨K, r2⟩ := kr
    go_enter Tryz.func140, Tryz.ntmps140
    go_wp2_with (first | (go_at_call 155; (with_reducible refine Calls.mono WD.out ?_); rintro e w1 ⟨rfl, hr1, hb1⟩; have HR1 := Lib.hid hr1; have HS1 := Lib.hid (HS.out.but hb1 hne); have HB1 := Lib.hid (HB0.out.trans hb1); have hz1 := hb1.size; rw [World.size_alloc] at hz1; clear hr1 hb1; obtain ⟨k0, k1, k2, k3, f0, f1, f2, f3, hl1⟩ := HS1.out; have j1 := HR1.out.fl; have j2 := HR1.out.f1; have j3 := HR1.out.lt) | (go_at_call 158; (with_reducible refine Calls.mono (LS.out _ HR1.out HB1.out) ?_); clear k0 k1 k2 k3 f0 f1 f2 f3; rintro e w2 ⟨pp, pn, pc, rfl, hb2, hk2⟩; have HK2 := Lib.hid hk2; have HS2 := Lib.hid (HS1.out.but hb2 hne); have HB2 := Lib.hid (HB1.out.trans hb2); have hz2 := hb2.size; obtain ⟨k0, k1, k2, k3, f0, f1, f2, f3, hl2⟩ := HS2.out; clear hk2 hb2) | fail)
    obtain ⟨hr2, e1, e2, e3, d, e4⟩ := (show RdAt w2 rd (r2.map bs) false ∧ pn = K.length ∧ pn ≤ pc ∧ (pp = none → pc = 0) ∧ ∃ d, TmsAt (NewQ w1.heap.size) w2 d pp K from HK2.out)
    have hv : TV (NewQ (w.heap.size + 1)) w2 d ⟨10, 0, 0, pp, pn, pc⟩ (.mk 10 0 0 K) := ⟨⟨rfl, rfl, rfl, e1, e2, e3⟩, e4.change (Nat.le_refl _) fun b hq _ => ⟨rfl, by unfold NewQ at *; omega⟩⟩
    have QQ := put4_at HS2.out (.int .i64 10) (.int .i64 0) (.int .i64 0) (.slice pp pn pc)
    have FIN := Lib.hid (term_some (row := ⟨10, 0, 0, pp, pn, pc⟩) hlt HB2.out hr2 hv)
    unfold put4 at QQ FIN
    obtain ⟨q0, q1, q2, q3⟩ := QQ
    clear k0 k1 k2 k3
    exact bodyPost_ret (v := .agg #[.int .i64 10, .int .i64 0, .int .i64 0, .slice pp pn pc]) (by simp [results, Tryz.results140, go_sem, q0, q1, q2, q3]) rfl FIN.out

set_option maxRecDepth 100000 in
set_option maxHeartbeats 16000000 in
theorem term_op11 {f : Nat} (HT : TermAtR f) (rd : Nat) (x : ByteArray) (rs : List ByteArray) (w : World) (h : RdAt w rd (x :: rs) false) (hE : ∀ W, But rd w W → Env W) (hf2 : 2 * rs.length + 1 ≤ f) (eo : opOf x.data.toList = 11) : Calls Tryz.prog 140 #[.pointer (some ⟨rd, 0, none⟩)] w (TermG rd (readT (f + 1) (ll (x :: rs))) w) := by
  have hlt := h.lt
  have hne : w.heap.size ≠ rd := by omega
  have hA : Below w.heap.size w (w.alloc (.cells #[.int .i64 0, .int .i64 0, .int .i64 0, .slice none 0 0] 29)) := (Below.refl _ _).alloc (Nat.le_refl _) _
  have WD := Lib.hid (rdword_any rd (x :: rs) false _ (h.below hA))
  have HS := Lib.hid (Res4.new w 29)
  have HB0 := Lib.hid (But.of_below (t := rd) hA)
  have HE := Lib.hid (fun (W W' : World) (hb : But rd w W) (hb2 : But rd W W') => hE W' (hb.trans hb2))
  unfold WordG at WD
  have hlen := h.len
  have hx := ba_word (opOf_word eo (by decide))
  have WD := Lib.hid (show Calls Tryz.prog 155 #[.pointer (some ⟨rd, 0, none⟩)] ((w.alloc (.cells #[.int .i64 0, .int .i64 0, .int .i64 0, .slice none 0 0] 29))) (fun e w' => e = .returned (.string ⟨#[110, 111, 116]⟩) ∧ RdAt w' rd rs false ∧ But rd ((w.alloc (.cells #[.int .i64 0, .int .i64 0, .int .i64 0, .slice none 0 0] 29))) w') from hx ▸ WD.out)
  rw [readT_not (f := f) (rs := rs) eo]
  have TS := Lib.hid (fun (W : World) (hR : RdAt W rd rs false) (hb : But rd w W) => HT rd rs W hR (fun W2 hb2 => HE.out W W2 hb hb2) (by omega))
  unfold TermG at TS
  obtain ⟨tv, etv⟩ : ∃ tv, readT f (ll rs) = tv := ⟨_, rfl⟩
  rw [etv] at TS ⊢
  clear h hE HT hA eo hx etv HE
  cases tv with
  | none =>
    go_enter Tryz.func140, Tryz.ntmps140
    go_wp2_with (first | (go_at_call 155; (with_reducible refine Calls.mono WD.out ?_); rintro e w1 ⟨rfl, hr1, hb1⟩; have HR1 := Lib.hid hr1; have HS1 := Lib.hid (HS.out.but hb1 hne); have HB1 := Lib.hid (HB0.out.trans hb1); have hz1 := hb1.size; rw [World.size_alloc] at hz1; clear hr1 hb1; obtain ⟨k0, k1, k2, k3, f0, f1, f2, f3, hl1⟩ := HS1.out; have j1 := HR1.out.fl; have j2 := HR1.out.f1; have j3 := HR1.out.lt) | (go_at_call 140; (with_reducible refine Calls.mono (TS.out _ HR1.out HB1.out) ?_); clear k0 k1 k2 k3 f0 f1 f2 f3; rintro e w2 ⟨row, rfl, hb2, hk2⟩; have HK2 := Lib.hid hk2; have HS2 := Lib.hid (HS1.out.but hb2 hne); have HB2 := Lib.hid (HB1.out.trans hb2); have hz2 := hb2.size; obtain ⟨k0, k1, k2, k3, f0, f1, f2, f3, hl2⟩ := HS2.out; clear hk2 hb2) | fail)
    obtain ⟨ws2, hr2⟩ := (show ∃ ws', RdAt w2 rd ws' true from HK2.out)
    have QQ := put4_new HS2.out (.int .i64 11) (.int .i64 0) (.int .i64 0) (.slice (some ⟨w2.heap.size, 0, none⟩) 1 1) (.cells #[.int .i64 row.op, .int .i64 row.num, .int .i64 row.more, .slice row.p row.n row.c] 29)
    have FIN := Lib.hid (term_new (term_none ⟨11, 0, 0, some ⟨w2.heap.size, 0, none⟩, 1, 1⟩ hlt HB2.out hr2) (.cells #[.int .i64 row.op, .int .i64 row.num, .int .i64 row.more, .slice row.p row.n row.c] 29))
    unfold put4 at QQ FIN
    obtain ⟨q0, q1, q2, q3⟩ := QQ
    clear k0 k1 k2 k3
    exact bodyPost_ret (v := .agg #[.int .i64 11, .int .i64 0, .int .i64 0, .slice (some ⟨w2.heap.size, 0, none⟩) 1 1]) (by simp [results, Tryz.results140, go_sem, q0, q1, q2, q3]) rfl FIN.out
  | some kr =>
    obtain ⟨k, r2⟩ := kr
    go_enter Tryz.func140, Tryz.ntmps140
    go_wp2_with (first | (go_at_call 155; (with_reducible refine Calls.mono WD.out ?_); rintro e w1 ⟨rfl, hr1, hb1⟩; have HR1 := Lib.hid hr1; have HS1 := Lib.hid (HS.out.but hb1 hne); have HB1 := Lib.hid (HB0.out.trans hb1); have hz1 := hb1.size; rw [World.size_alloc] at hz1; clear hr1 hb1; obtain ⟨k0, k1, k2, k3, f0, f1, f2, f3, hl1⟩ := HS1.out; have j1 := HR1.out.fl; have j2 := HR1.out.f1; have j3 := HR1.out.lt) | (go_at_call 140; (with_reducible refine Calls.mono (TS.out _ HR1.out HB1.out) ?_); clear k0 k1 k2 k3 f0 f1 f2 f3; rintro e w2 ⟨row, rfl, hb2, hk2⟩; have HK2 := Lib.hid hk2; have HS2 := Lib.hid (HS1.out.but hb2 hne); have HB2 := Lib.hid (HB1.out.trans hb2); have hz2 := hb2.size; obtain ⟨k0, k1, k2, k3, f0, f1, f2, f3, hl2⟩ := HS2.out; clear hk2 hb2) | fail)
    obtain ⟨hr2, d, hv⟩ := (show RdAt w2 rd (r2.map bs) false ∧ ∃ d, TV (NewQ w1.heap.size) w2 d row k from HK2.out)
    have hv3 : TV (NewQ (w.heap.size + 1)) w2 d row k := hv.change (Nat.le_refl _) fun b hq _ => ⟨rfl, by unfold NewQ at *; omega⟩
    have QQ := put4_new HS2.out (.int .i64 11) (.int .i64 0) (.int .i64 0) (.slice (some ⟨w2.heap.size, 0, none⟩) 1 1) (.cells #[.int .i64 row.op, .int .i64 row.num, .int .i64 row.more, .slice row.p row.n row.c] 29)
    have FIN := Lib.hid (term_not 29 hlt HB2.out hl2 hr2 hv3)
    unfold put4 at QQ FIN
    obtain ⟨q0, q1, q2, q3⟩ := QQ
    clear k0 k1 k2 k3
    exact bodyPost_ret (v := .agg #[.int .i64 11, .int .i64 0, .int .i64 0, .slice (some ⟨w2.heap.size, 0, none⟩) 1 1]) (by simp [results, Tryz.results140, go_sem, q0, q1, q2, q3]) rfl FIN.out

end Go.Proofs.YtflcdkibjakciaaGreatDoor
