/-
  THE WALKS over the reader of terms: term at some words (printed by gent13.py).
-/
import Derived.Test.YtflcdkibjakciaaGreatDoorM21
namespace Go.Proofs.YtflcdkibjakciaaGreatDoor
open Go.RowKit Te

set_option maxRecDepth 100000 in
set_option maxHeartbeats 16000000 in
theorem term_op2 {f : Nat} (rd : Nat) (x : ByteArray) (rs : List ByteArray) (w : World) (h : RdAt w rd (x :: rs) false) (hE : ∀ W, But rd w W → Env W) (eo : opOf x.data.toList = 2) : Calls Tryz.prog 140 #[.pointer (some ⟨rd, 0, none⟩)] w (TermG rd (readT (f + 1) (ll (x :: rs))) w) := by
  have hlt := h.lt
  have hne : w.heap.size ≠ rd := by omega
  have hA : Below w.heap.size w (w.alloc (.cells #[.int .i64 0, .int .i64 0, .int .i64 0, .slice none 0 0] 29)) := (Below.refl _ _).alloc (Nat.le_refl _) _
  have WD := Lib.hid (rdword_any rd (x :: rs) false _ (h.below hA))
  have HS := Lib.hid (Res4.new w 29)
  have HB0 := Lib.hid (But.of_below (t := rd) hA)
  have HE := Lib.hid (fun (W W' : World) (hb : But rd w W) (hb2 : But rd W W') => hE W' (hb.trans hb2))
  unfold WordG at WD
  have hlen := h.len
  have hx := ba_word (opOf_word eo (by decide))
  have WD := Lib.hid (show Calls Tryz.prog 155 #[.pointer (some ⟨rd, 0, none⟩)] ((w.alloc (.cells #[.int .i64 0, .int .i64 0, .int .i64 0, .slice none 0 0] 29))) (fun e w' => e = .returned (.string ⟨#[99, 114, 111, 112]⟩) ∧ RdAt w' rd rs false ∧ But rd ((w.alloc (.cells #[.int .i64 0, .int .i64 0, .int .i64 0, .slice none 0 0] 29))) w') from hx ▸ WD.out)
  rw [readT_num (f := f) (rs := rs) 2 eo (by decide)]
  have NM := Lib.hid (fun (W : World) (hR : RdAt W rd rs false) (hb : But rd w W) => rdnumber_any rd rs false W hR (fun W2 hb2 => HE.out W W2 hb hb2))
  unfold NumRG at NM
  obtain ⟨nv, env⟩ : ∃ nv, numM (hdW rs).data.toList = nv := ⟨_, rfl⟩
  rw [env] at NM ⊢
  clear h hE hA eo hx env HE
  cases nv with
  | none =>
    have NM := Lib.hid (fun (W : World) (hR : RdAt W rd rs false) (hb : But rd w W) => show Calls Tryz.prog 156 #[.pointer (some ⟨rd, 0, none⟩)] W (fun e w' => e = .returned (.int .i64 0) ∧ RdAt w' rd rs.tail true ∧ But rd W w') from NM.out W hR hb)
    go_enter Tryz.func140, Tryz.ntmps140
    go_wp2_with (first | (go_at_call 155; (with_reducible refine Calls.mono WD.out ?_); rintro e w1 ⟨rfl, hr1, hb1⟩; have HR1 := Lib.hid hr1; have HS1 := Lib.hid (HS.out.but hb1 hne); have HB1 := Lib.hid (HB0.out.trans hb1); have hz1 := hb1.size; rw [World.size_alloc] at hz1; clear hr1 hb1; obtain ⟨k0, k1, k2, k3, f0, f1, f2, f3, hl1⟩ := HS1.out; have j1 := HR1.out.fl; have j2 := HR1.out.f1; have j3 := HR1.out.lt) | (go_at_call 156; (with_reducible refine Calls.mono (NM.out _ HR1.out HB1.out) ?_); clear k0 k1 k2 k3 f0 f1 f2 f3; rintro e w2 ⟨rfl, hr2, hb2⟩; have HR2 := Lib.hid hr2; have HS2 := Lib.hid (HS1.out.but hb2 hne); have HB2 := Lib.hid (HB1.out.trans hb2); have hz2 := hb2.size; obtain ⟨k0, k1, k2, k3, f0, f1, f2, f3, hl2⟩ := HS2.out; clear hr2 hb2) | fail)
    have QQ := put4_at HS2.out (.int .i64 2) (.int .i64 0) (.int .i64 0) (.slice none 0 0)
    have FIN := Lib.hid (term_none ⟨2, 0, 0, none, 0, 0⟩ hlt HB2.out HR2.out)
    unfold put4 at QQ FIN
    obtain ⟨q0, q1, q2, q3⟩ := QQ
    clear k0 k1 k2 k3
    exact bodyPost_ret (v := .agg #[.int .i64 2, .int .i64 0, .int .i64 0, .slice none 0 0]) (by simp [results, Tryz.results140, go_sem, q0, q1, q2, q3]) rfl FIN.out
  | some v =>
    have NM := Lib.hid (fun (W : World) (hR : RdAt W rd rs false) (hb : But rd w W) => show Calls Tryz.prog 156 #[.pointer (some ⟨rd, 0, none⟩)] W (fun e w' => e = .returned (.int .i64 v) ∧ RdAt w' rd rs.tail false ∧ But rd W w') from NM.out W hR hb)
    go_enter Tryz.func140, Tryz.ntmps140
    go_wp2_with (first | (go_at_call 155; (with_reducible refine Calls.mono WD.out ?_); rintro e w1 ⟨rfl, hr1, hb1⟩; have HR1 := Lib.hid hr1; have HS1 := Lib.hid (HS.out.but hb1 hne); have HB1 := Lib.hid (HB0.out.trans hb1); have hz1 := hb1.size; rw [World.size_alloc] at hz1; clear hr1 hb1; obtain ⟨k0, k1, k2, k3, f0, f1, f2, f3, hl1⟩ := HS1.out; have j1 := HR1.out.fl; have j2 := HR1.out.f1; have j3 := HR1.out.lt) | (go_at_call 156; (with_reducible refine Calls.mono (NM.out _ HR1.out HB1.out) ?_); clear k0 k1 k2 k3 f0 f1 f2 f3; rintro e w2 ⟨rfl, hr2, hb2⟩; have HR2 := Lib.hid hr2; have HS2 := Lib.hid (HS1.out.but hb2 hne); have HB2 := Lib.hid (HB1.out.trans hb2); have hz2 := hb2.size; obtain ⟨k0, k1, k2, k3, f0, f1, f2, f3, hl2⟩ := HS2.out; clear hr2 hb2) | fail)
    have QQ := put4_at HS2.out (.int .i64 2) (.int .i64 v) (.int .i64 0) (.slice none 0 0)
    have FIN := Lib.hid (term_some (t := .mk 2 v 0 []) (r := ll rs.tail) (row := ⟨2, v, 0, none, 0, 0⟩) hlt HB2.out (by rw [bs_ll]; exact HR2.out) (TV.leaf _ _ 2 v 0))
    unfold put4 at QQ FIN
    obtain ⟨q0, q1, q2, q3⟩ := QQ
    clear k0 k1 k2 k3
    exact bodyPost_ret (v := .agg #[.int .i64 2, .int .i64 v, .int .i64 0, .slice none 0 0]) (by simp [results, Tryz.results140, go_sem, q0, q1, q2, q3]) rfl FIN.out

set_option maxRecDepth 100000 in
set_option maxHeartbeats 16000000 in
theorem term_op3 {f : Nat} (rd : Nat) (x : ByteArray) (rs : List ByteArray) (w : World) (h : RdAt w rd (x :: rs) false) (hE : ∀ W, But rd w W → Env W) (eo : opOf x.data.toList = 3) : Calls Tryz.prog 140 #[.pointer (some ⟨rd, 0, none⟩)] w (TermG rd (readT (f + 1) (ll (x :: rs))) w) := by
  have hlt := h.lt
  have hne : w.heap.size ≠ rd := by omega
  have hA : Below w.heap.size w (w.alloc (.cells #[.int .i64 0, .int .i64 0, .int .i64 0, .slice none 0 0] 29)) := (Below.refl _ _).alloc (Nat.le_refl _) _
  have WD := Lib.hid (rdword_any rd (x :: rs) false _ (h.below hA))
  have HS := Lib.hid (Res4.new w 29)
  have HB0 := Lib.hid (But.of_below (t := rd) hA)
  have HE := Lib.hid (fun (W W' : World) (hb : But rd w W) (hb2 : But rd W W') => hE W' (hb.trans hb2))
  unfold WordG at WD
  have hlen := h.len
  have hx := ba_word (opOf_word eo (by decide))
  have WD := Lib.hid (show Calls Tryz.prog 155 #[.pointer (some ⟨rd, 0, none⟩)] ((w.alloc (.cells #[.int .i64 0, .int .i64 0, .int .i64 0, .slice none 0 0] 29))) (fun e w' => e = .returned (.string ⟨#[102, 97, 109, 105, 108, 121]⟩) ∧ RdAt w' rd rs false ∧ But rd ((w.alloc (.cells #[.int .i64 0, .int .i64 0, .int .i64 0, .slice none 0 0] 29))) w') from hx ▸ WD.out)
  rw [readT_num (f := f) (rs := rs) 3 eo (by decide)]
  have NM := Lib.hid (fun (W : World) (hR : RdAt W rd rs false) (hb : But rd w W) => rdnumber_any rd rs false W hR (fun W2 hb2 => HE.out W W2 hb hb2))
  unfold NumRG at NM
  obtain ⟨nv, env⟩ : ∃ nv, numM (hdW rs).data.toList = nv := ⟨_, rfl⟩
  rw [env] at NM ⊢
  clear h hE hA eo hx env HE
  cases nv with
  | none =>
    have NM := Lib.hid (fun (W : World) (hR : RdAt W rd rs false) (hb : But rd w W) => show Calls Tryz.prog 156 #[.pointer (some ⟨rd, 0, none⟩)] W (fun e w' => e = .returned (.int .i64 0) ∧ RdAt w' rd rs.tail true ∧ But rd W w') from NM.out W hR hb)
    go_enter Tryz.func140, Tryz.ntmps140
    go_wp2_with (first | (go_at_call 155; (with_reducible refine Calls.mono WD.out ?_); rintro e w1 ⟨rfl, hr1, hb1⟩; have HR1 := Lib.hid hr1; have HS1 := Lib.hid (HS.out.but hb1 hne); have HB1 := Lib.hid (HB0.out.trans hb1); have hz1 := hb1.size; rw [World.size_alloc] at hz1; clear hr1 hb1; obtain ⟨k0, k1, k2, k3, f0, f1, f2, f3, hl1⟩ := HS1.out; have j1 := HR1.out.fl; have j2 := HR1.out.f1; have j3 := HR1.out.lt) | (go_at_call 156; (with_reducible refine Calls.mono (NM.out _ HR1.out HB1.out) ?_); clear k0 k1 k2 k3 f0 f1 f2 f3; rintro e w2 ⟨rfl, hr2, hb2⟩; have HR2 := Lib.hid hr2; have HS2 := Lib.hid (HS1.out.but hb2 hne); have HB2 := Lib.hid (HB1.out.trans hb2); have hz2 := hb2.size; obtain ⟨k0, k1, k2, k3, f0, f1, f2, f3, hl2⟩ := HS2.out; clear hr2 hb2) | fail)
    have QQ := put4_at HS2.out (.int .i64 3) (.int .i64 0) (.int .i64 0) (.slice none 0 0)
    have FIN := Lib.hid (term_none ⟨3, 0, 0, none, 0, 0⟩ hlt HB2.out HR2.out)
    unfold put4 at QQ FIN
    obtain ⟨q0, q1, q2, q3⟩ := QQ
    clear k0 k1 k2 k3
    exact bodyPost_ret (v := .agg #[.int .i64 3, .int .i64 0, .int .i64 0, .slice none 0 0]) (by simp [results, Tryz.results140, go_sem, q0, q1, q2, q3]) rfl FIN.out
  | some v =>
    have NM := Lib.hid (fun (W : World) (hR : RdAt W rd rs false) (hb : But rd w W) => show Calls Tryz.prog 156 #[.pointer (some ⟨rd, 0, none⟩)] W (fun e w' => e = .returned (.int .i64 v) ∧ RdAt w' rd rs.tail false ∧ But rd W w') from NM.out W hR hb)
    go_enter Tryz.func140, Tryz.ntmps140
    go_wp2_with (first | (go_at_call 155; (with_reducible refine Calls.mono WD.out ?_); rintro e w1 ⟨rfl, hr1, hb1⟩; have HR1 := Lib.hid hr1; have HS1 := Lib.hid (HS.out.but hb1 hne); have HB1 := Lib.hid (HB0.out.trans hb1); have hz1 := hb1.size; rw [World.size_alloc] at hz1; clear hr1 hb1; obtain ⟨k0, k1, k2, k3, f0, f1, f2, f3, hl1⟩ := HS1.out; have j1 := HR1.out.fl; have j2 := HR1.out.f1; have j3 := HR1.out.lt) | (go_at_call 156; (with_reducible refine Calls.mono (NM.out _ HR1.out HB1.out) ?_); clear k0 k1 k2 k3 f0 f1 f2 f3; rintro e w2 ⟨rfl, hr2, hb2⟩; have HR2 := Lib.hid hr2; have HS2 := Lib.hid (HS1.out.but hb2 hne); have HB2 := Lib.hid (HB1.out.trans hb2); have hz2 := hb2.size; obtain ⟨k0, k1, k2, k3, f0, f1, f2, f3, hl2⟩ := HS2.out; clear hr2 hb2) | fail)
    have QQ := put4_at HS2.out (.int .i64 3) (.int .i64 v) (.int .i64 0) (.slice none 0 0)
    have FIN := Lib.hid (term_some (t := .mk 3 v 0 []) (r := ll rs.tail) (row := ⟨3, v, 0, none, 0, 0⟩) hlt HB2.out (by rw [bs_ll]; exact HR2.out) (TV.leaf _ _ 3 v 0))
    unfold put4 at QQ FIN
    obtain ⟨q0, q1, q2, q3⟩ := QQ
    clear k0 k1 k2 k3
    exact bodyPost_ret (v := .agg #[.int .i64 3, .int .i64 v, .int .i64 0, .slice none 0 0]) (by simp [results, Tryz.results140, go_sem, q0, q1, q2, q3]) rfl FIN.out

set_option maxRecDepth 100000 in
set_option maxHeartbeats 16000000 in
theorem term_op5 {f : Nat} (rd : Nat) (x : ByteArray) (rs : List ByteArray) (w : World) (h : RdAt w rd (x :: rs) false) (hE : ∀ W, But rd w W → Env W) (eo : opOf x.data.toList = 5) : Calls Tryz.prog 140 #[.pointer (some ⟨rd, 0, none⟩)] w (TermG rd (readT (f + 1) (ll (x :: rs))) w) := by
  have hlt := h.lt
  have hne : w.heap.size ≠ rd := by omega
  have hA : Below w.heap.size w (w.alloc (.cells #[.int .i64 0, .int .i64 0, .int .i64 0, .slice none 0 0] 29)) := (Below.refl _ _).alloc (Nat.le_refl _) _
  have WD := Lib.hid (rdword_any rd (x :: rs) false _ (h.below hA))
  have HS := Lib.hid (Res4.new w 29)
  have HB0 := Lib.hid (But.of_below (t := rd) hA)
  have HE := Lib.hid (fun (W W' : World) (hb : But rd w W) (hb2 : But rd W W') => hE W' (hb.trans hb2))
  unfold WordG at WD
  have hlen := h.len
  have hx := ba_word (opOf_word eo (by decide))
  have WD := Lib.hid (show Calls Tryz.prog 155 #[.pointer (some ⟨rd, 0, none⟩)] ((w.alloc (.cells #[.int .i64 0, .int .i64 0, .int .i64 0, .slice none 0 0] 29))) (fun e w' => e = .returned (.string ⟨#[122, 111, 110, 101]⟩) ∧ RdAt w' rd rs false ∧ But rd ((w.alloc (.cells #[.int .i64 0, .int .i64 0, .int .i64 0, .slice none 0 0] 29))) w') from hx ▸ WD.out)
  rw [readT_num (f := f) (rs := rs) 5 eo (by decide)]
  have NM := Lib.hid (fun (W : World) (hR : RdAt W rd rs false) (hb : But rd w W) => rdnumber_any rd rs false W hR (fun W2 hb2 => HE.out W W2 hb hb2))
  unfold NumRG at NM
  obtain ⟨nv, env⟩ : ∃ nv, numM (hdW rs).data.toList = nv := ⟨_, rfl⟩
  rw [env] at NM ⊢
  clear h hE hA eo hx env HE
  cases nv with
  | none =>
    have NM := Lib.hid (fun (W : World) (hR : RdAt W rd rs false) (hb : But rd w W) => show Calls Tryz.prog 156 #[.pointer (some ⟨rd, 0, none⟩)] W (fun e w' => e = .returned (.int .i64 0) ∧ RdAt w' rd rs.tail true ∧ But rd W w') from NM.out W hR hb)
    go_enter Tryz.func140, Tryz.ntmps140
    go_wp2_with (first | (go_at_call 155; (with_reducible refine Calls.mono WD.out ?_); rintro e w1 ⟨rfl, hr1, hb1⟩; have HR1 := Lib.hid hr1; have HS1 := Lib.hid (HS.out.but hb1 hne); have HB1 := Lib.hid (HB0.out.trans hb1); have hz1 := hb1.size; rw [World.size_alloc] at hz1; clear hr1 hb1; obtain ⟨k0, k1, k2, k3, f0, f1, f2, f3, hl1⟩ := HS1.out; have j1 := HR1.out.fl; have j2 := HR1.out.f1; have j3 := HR1.out.lt) | (go_at_call 156; (with_reducible refine Calls.mono (NM.out _ HR1.out HB1.out) ?_); clear k0 k1 k2 k3 f0 f1 f2 f3; rintro e w2 ⟨rfl, hr2, hb2⟩; have HR2 := Lib.hid hr2; have HS2 := Lib.hid (HS1.out.but hb2 hne); have HB2 := Lib.hid (HB1.out.trans hb2); have hz2 := hb2.size; obtain ⟨k0, k1, k2, k3, f0, f1, f2, f3, hl2⟩ := HS2.out; clear hr2 hb2) | fail)
    have QQ := put4_at HS2.out (.int .i64 5) (.int .i64 0) (.int .i64 0) (.slice none 0 0)
    have FIN := Lib.hid (term_none ⟨5, 0, 0, none, 0, 0⟩ hlt HB2.out HR2.out)
    unfold put4 at QQ FIN
    obtain ⟨q0, q1, q2, q3⟩ := QQ
    clear k0 k1 k2 k3
    exact bodyPost_ret (v := .agg #[.int .i64 5, .int .i64 0, .int .i64 0, .slice none 0 0]) (by simp [results, Tryz.results140, go_sem, q0, q1, q2, q3]) rfl FIN.out
  | some v =>
    have NM := Lib.hid (fun (W : World) (hR : RdAt W rd rs false) (hb : But rd w W) => show Calls Tryz.prog 156 #[.pointer (some ⟨rd, 0, none⟩)] W (fun e w' => e = .returned (.int .i64 v) ∧ RdAt w' rd rs.tail false ∧ But rd W w') from NM.out W hR hb)
    go_enter Tryz.func140, Tryz.ntmps140
    go_wp2_with (first | (go_at_call 155; (with_reducible refine Calls.mono WD.out ?_); rintro e w1 ⟨rfl, hr1, hb1⟩; have HR1 := Lib.hid hr1; have HS1 := Lib.hid (HS.out.but hb1 hne); have HB1 := Lib.hid (HB0.out.trans hb1); have hz1 := hb1.size; rw [World.size_alloc] at hz1; clear hr1 hb1; obtain ⟨k0, k1, k2, k3, f0, f1, f2, f3, hl1⟩ := HS1.out; have j1 := HR1.out.fl; have j2 := HR1.out.f1; have j3 := HR1.out.lt) | (go_at_call 156; (with_reducible refine Calls.mono (NM.out _ HR1.out HB1.out) ?_); clear k0 k1 k2 k3 f0 f1 f2 f3; rintro e w2 ⟨rfl, hr2, hb2⟩; have HR2 := Lib.hid hr2; have HS2 := Lib.hid (HS1.out.but hb2 hne); have HB2 := Lib.hid (HB1.out.trans hb2); have hz2 := hb2.size; obtain ⟨k0, k1, k2, k3, f0, f1, f2, f3, hl2⟩ := HS2.out; clear hr2 hb2) | fail)
    have QQ := put4_at HS2.out (.int .i64 5) (.int .i64 v) (.int .i64 0) (.slice none 0 0)
    have FIN := Lib.hid (term_some (t := .mk 5 v 0 []) (r := ll rs.tail) (row := ⟨5, v, 0, none, 0, 0⟩) hlt HB2.out (by rw [bs_ll]; exact HR2.out) (TV.leaf _ _ 5 v 0))
    unfold put4 at QQ FIN
    obtain ⟨q0, q1, q2, q3⟩ := QQ
    clear k0 k1 k2 k3
    exact bodyPost_ret (v := .agg #[.int .i64 5, .int .i64 v, .int .i64 0, .slice none 0 0]) (by simp [results, Tryz.results140, go_sem, q0, q1, q2, q3]) rfl FIN.out

set_option maxRecDepth 100000 in
set_option maxHeartbeats 16000000 in
theorem term_op6 {f : Nat} (rd : Nat) (x : ByteArray) (rs : List ByteArray) (w : World) (h : RdAt w rd (x :: rs) false) (hE : ∀ W, But rd w W → Env W) (eo : opOf x.data.toList = 6) : Calls Tryz.prog 140 #[.pointer (some ⟨rd, 0, none⟩)] w (TermG rd (readT (f + 1) (ll (x :: rs))) w) := by
  have hlt := h.lt
  have hne : w.heap.size ≠ rd := by omega
  have hA : Below w.heap.size w (w.alloc (.cells #[.int .i64 0, .int .i64 0, .int .i64 0, .slice none 0 0] 29)) := (Below.refl _ _).alloc (Nat.le_refl _) _
  have WD := Lib.hid (rdword_any rd (x :: rs) false _ (h.below hA))
  have HS := Lib.hid (Res4.new w 29)
  have HB0 := Lib.hid (But.of_below (t := rd) hA)
  have HE := Lib.hid (fun (W W' : World) (hb : But rd w W) (hb2 : But rd W W') => hE W' (hb.trans hb2))
  unfold WordG at WD
  have hlen := h.len
  have hx := ba_word (opOf_word eo (by decide))
  have WD := Lib.hid (show Calls Tryz.prog 155 #[.pointer (some ⟨rd, 0, none⟩)] ((w.alloc (.cells #[.int .i64 0, .int .i64 0, .int .i64 0, .slice none 0 0] 29))) (fun e w' => e = .returned (.string ⟨#[115, 97, 109, 101]⟩) ∧ RdAt w' rd rs false ∧ But rd ((w.alloc (.cells #[.int .i64 0, .int .i64 0, .int .i64 0, .slice none 0 0] 29))) w') from hx ▸ WD.out)
  rw [readT_num (f := f) (rs := rs) 6 eo (by decide)]
  have NM := Lib.hid (fun (W : World) (hR : RdAt W rd rs false) (hb : But rd w W) => rdnumber_any rd rs false W hR (fun W2 hb2 => HE.out W W2 hb hb2))
  unfold NumRG at NM
  obtain ⟨nv, env⟩ : ∃ nv, numM (hdW rs).data.toList = nv := ⟨_, rfl⟩
  rw [env] at NM ⊢
  clear h hE hA eo hx env HE
  cases nv with
  | none =>
    have NM := Lib.hid (fun (W : World) (hR : RdAt W rd rs false) (hb : But rd w W) => show Calls Tryz.prog 156 #[.pointer (some ⟨rd, 0, none⟩)] W (fun e w' => e = .returned (.int .i64 0) ∧ RdAt w' rd rs.tail true ∧ But rd W w') from NM.out W hR hb)
    go_enter Tryz.func140, Tryz.ntmps140
    go_wp2_with (first | (go_at_call 155; (with_reducible refine Calls.mono WD.out ?_); rintro e w1 ⟨rfl, hr1, hb1⟩; have HR1 := Lib.hid hr1; have HS1 := Lib.hid (HS.out.but hb1 hne); have HB1 := Lib.hid (HB0.out.trans hb1); have hz1 := hb1.size; rw [World.size_alloc] at hz1; clear hr1 hb1; obtain ⟨k0, k1, k2, k3, f0, f1, f2, f3, hl1⟩ := HS1.out; have j1 := HR1.out.fl; have j2 := HR1.out.f1; have j3 := HR1.out.lt) | (go_at_call 156; (with_reducible refine Calls.mono (NM.out _ HR1.out HB1.out) ?_); clear k0 k1 k2 k3 f0 f1 f2 f3; rintro e w2 ⟨rfl, hr2, hb2⟩; have HR2 := Lib.hid hr2; have HS2 := Lib.hid (HS1.out.but hb2 hne); have HB2 := Lib.hid (HB1.out.trans hb2); have hz2 := hb2.size; obtain ⟨k0, k1, k2, k3, f0, f1, f2, f3, hl2⟩ := HS2.out; clear hr2 hb2) | fail)
    have QQ := put4_at HS2.out (.int .i64 6) (.int .i64 0) (.int .i64 0) (.slice none 0 0)
    have FIN := Lib.hid (term_none ⟨6, 0, 0, none, 0, 0⟩ hlt HB2.out HR2.out)
    unfold put4 at QQ FIN
    obtain ⟨q0, q1, q2, q3⟩ := QQ
    clear k0 k1 k2 k3
    exact bodyPost_ret (v := .agg #[.int .i64 6, .int .i64 0, .int .i64 0, .slice none 0 0]) (by simp [results, Tryz.results140, go_sem, q0, q1, q2, q3]) rfl FIN.out
  | some v =>
    have NM := Lib.hid (fun (W : World) (hR : RdAt W rd rs false) (hb : But rd w W) => show Calls Tryz.prog 156 #[.pointer (some ⟨rd, 0, none⟩)] W (fun e w' => e = .returned (.int .i64 v) ∧ RdAt w' rd rs.tail false ∧ But rd W w') from NM.out W hR hb)
    go_enter Tryz.func140, Tryz.ntmps140
    go_wp2_with (first | (go_at_call 155; (with_reducible refine Calls.mono WD.out ?_); rintro e w1 ⟨rfl, hr1, hb1⟩; have HR1 := Lib.hid hr1; have HS1 := Lib.hid (HS.out.but hb1 hne); have HB1 := Lib.hid (HB0.out.trans hb1); have hz1 := hb1.size; rw [World.size_alloc] at hz1; clear hr1 hb1; obtain ⟨k0, k1, k2, k3, f0, f1, f2, f3, hl1⟩ := HS1.out; have j1 := HR1.out.fl; have j2 := HR1.out.f1; have j3 := HR1.out.lt) | (go_at_call 156; (with_reducible refine Calls.mono (NM.out _ HR1.out HB1.out) ?_); clear k0 k1 k2 k3 f0 f1 f2 f3; rintro e w2 ⟨rfl, hr2, hb2⟩; have HR2 := Lib.hid hr2; have HS2 := Lib.hid (HS1.out.but hb2 hne); have HB2 := Lib.hid (HB1.out.trans hb2); have hz2 := hb2.size; obtain ⟨k0, k1, k2, k3, f0, f1, f2, f3, hl2⟩ := HS2.out; clear hr2 hb2) | fail)
    have QQ := put4_at HS2.out (.int .i64 6) (.int .i64 v) (.int .i64 0) (.slice none 0 0)
    have FIN := Lib.hid (term_some (t := .mk 6 v 0 []) (r := ll rs.tail) (row := ⟨6, v, 0, none, 0, 0⟩) hlt HB2.out (by rw [bs_ll]; exact HR2.out) (TV.leaf _ _ 6 v 0))
    unfold put4 at QQ FIN
    obtain ⟨q0, q1, q2, q3⟩ := QQ
    clear k0 k1 k2 k3
    exact bodyPost_ret (v := .agg #[.int .i64 6, .int .i64 v, .int .i64 0, .slice none 0 0]) (by simp [results, Tryz.results140, go_sem, q0, q1, q2, q3]) rfl FIN.out

set_option maxRecDepth 100000 in
set_option maxHeartbeats 16000000 in
theorem term_op8 {f : Nat} (rd : Nat) (x : ByteArray) (rs : List ByteArray) (w : World) (h : RdAt w rd (x :: rs) false) (hE : ∀ W, But rd w W → Env W) (eo : opOf x.data.toList = 8) : Calls Tryz.prog 140 #[.pointer (some ⟨rd, 0, none⟩)] w (TermG rd (readT (f + 1) (ll (x :: rs))) w) := by
  have hlt := h.lt
  have hne : w.heap.size ≠ rd := by omega
  have hA : Below w.heap.size w (w.alloc (.cells #[.int .i64 0, .int .i64 0, .int .i64 0, .slice none 0 0] 29)) := (Below.refl _ _).alloc (Nat.le_refl _) _
  have WD := Lib.hid (rdword_any rd (x :: rs) false _ (h.below hA))
  have HS := Lib.hid (Res4.new w 29)
  have HB0 := Lib.hid (But.of_below (t := rd) hA)
  have HE := Lib.hid (fun (W W' : World) (hb : But rd w W) (hb2 : But rd W W') => hE W' (hb.trans hb2))
  unfold WordG at WD
  have hlen := h.len
  have hx := ba_word (opOf_word eo (by decide))
  have WD := Lib.hid (show Calls Tryz.prog 155 #[.pointer (some ⟨rd, 0, none⟩)] ((w.alloc (.cells #[.int .i64 0, .int .i64 0, .int .i64 0, .slice none 0 0] 29))) (fun e w' => e = .returned (.string ⟨#[107, 110, 111, 119, 110]⟩) ∧ RdAt w' rd rs false ∧ But rd ((w.alloc (.cells #[.int .i64 0, .int .i64 0, .int .i64 0, .slice none 0 0] 29))) w') from hx ▸ WD.out)
  rw [readT_num (f := f) (rs := rs) 8 eo (by decide)]
  have NM := Lib.hid (fun (W : World) (hR : RdAt W rd rs false) (hb : But rd w W) => rdnumber_any rd rs false W hR (fun W2 hb2 => HE.out W W2 hb hb2))
  unfold NumRG at NM
  obtain ⟨nv, env⟩ : ∃ nv, numM (hdW rs).data.toList = nv := ⟨_, rfl⟩
  rw [env] at NM ⊢
  clear h hE hA eo hx env HE
  cases nv with
  | none =>
    have NM := Lib.hid (fun (W : World) (hR : RdAt W rd rs false) (hb : But rd w W) => show Calls Tryz.prog 156 #[.pointer (some ⟨rd, 0, none⟩)] W (fun e w' => e = .returned (.int .i64 0) ∧ RdAt w' rd rs.tail true ∧ But rd W w') from NM.out W hR hb)
    go_enter Tryz.func140, Tryz.ntmps140
    go_wp2_with (first | (go_at_call 155; (with_reducible refine Calls.mono WD.out ?_); rintro e w1 ⟨rfl, hr1, hb1⟩; have HR1 := Lib.hid hr1; have HS1 := Lib.hid (HS.out.but hb1 hne); have HB1 := Lib.hid (HB0.out.trans hb1); have hz1 := hb1.size; rw [World.size_alloc] at hz1; clear hr1 hb1; obtain ⟨k0, k1, k2, k3, f0, f1, f2, f3, hl1⟩ := HS1.out; have j1 := HR1.out.fl; have j2 := HR1.out.f1; have j3 := HR1.out.lt) | (go_at_call 156; (with_reducible refine Calls.mono (NM.out _ HR1.out HB1.out) ?_); clear k0 k1 k2 k3 f0 f1 f2 f3; rintro e w2 ⟨rfl, hr2, hb2⟩; have HR2 := Lib.hid hr2; have HS2 := Lib.hid (HS1.out.but hb2 hne); have HB2 := Lib.hid (HB1.out.trans hb2); have hz2 := hb2.size; obtain ⟨k0, k1, k2, k3, f0, f1, f2, f3, hl2⟩ := HS2.out; clear hr2 hb2) | fail)
    have QQ := put4_at HS2.out (.int .i64 8) (.int .i64 0) (.int .i64 0) (.slice none 0 0)
    have FIN := Lib.hid (term_none ⟨8, 0, 0, none, 0, 0⟩ hlt HB2.out HR2.out)
    unfold put4 at QQ FIN
    obtain ⟨q0, q1, q2, q3⟩ := QQ
    clear k0 k1 k2 k3
    exact bodyPost_ret (v := .agg #[.int .i64 8, .int .i64 0, .int .i64 0, .slice none 0 0]) (by simp [results, Tryz.results140, go_sem, q0, q1, q2, q3]) rfl FIN.out
  | some v =>
    have NM := Lib.hid (fun (W : World) (hR : RdAt W rd rs false) (hb : But rd w W) => show Calls Tryz.prog 156 #[.pointer (some ⟨rd, 0, none⟩)] W (fun e w' => e = .returned (.int .i64 v) ∧ RdAt w' rd rs.tail false ∧ But rd W w') from NM.out W hR hb)
    go_enter Tryz.func140, Tryz.ntmps140
    go_wp2_with (first | (go_at_call 155; (with_reducible refine Calls.mono WD.out ?_); rintro e w1 ⟨rfl, hr1, hb1⟩; have HR1 := Lib.hid hr1; have HS1 := Lib.hid (HS.out.but hb1 hne); have HB1 := Lib.hid (HB0.out.trans hb1); have hz1 := hb1.size; rw [World.size_alloc] at hz1; clear hr1 hb1; obtain ⟨k0, k1, k2, k3, f0, f1, f2, f3, hl1⟩ := HS1.out; have j1 := HR1.out.fl; have j2 := HR1.out.f1; have j3 := HR1.out.lt) | (go_at_call 156; (with_reducible refine Calls.mono (NM.out _ HR1.out HB1.out) ?_); clear k0 k1 k2 k3 f0 f1 f2 f3; rintro e w2 ⟨rfl, hr2, hb2⟩; have HR2 := Lib.hid hr2; have HS2 := Lib.hid (HS1.out.but hb2 hne); have HB2 := Lib.hid (HB1.out.trans hb2); have hz2 := hb2.size; obtain ⟨k0, k1, k2, k3, f0, f1, f2, f3, hl2⟩ := HS2.out; clear hr2 hb2) | fail)
    have QQ := put4_at HS2.out (.int .i64 8) (.int .i64 v) (.int .i64 0) (.slice none 0 0)
    have FIN := Lib.hid (term_some (t := .mk 8 v 0 []) (r := ll rs.tail) (row := ⟨8, v, 0, none, 0, 0⟩) hlt HB2.out (by rw [bs_ll]; exact HR2.out) (TV.leaf _ _ 8 v 0))
    unfold put4 at QQ FIN
    obtain ⟨q0, q1, q2, q3⟩ := QQ
    clear k0 k1 k2 k3
    exact bodyPost_ret (v := .agg #[.int .i64 8, .int .i64 v, .int .i64 0, .slice none 0 0]) (by simp [results, Tryz.results140, go_sem, q0, q1, q2, q3]) rfl FIN.out

end Go.Proofs.YtflcdkibjakciaaGreatDoor
