/- Commands and Decode: the first signal that the text begins with, again and again. For all codes and texts. -/
import Derived.Test.YtpkafcoflgbnaaaWLast
import Derived.Test.YtpkafcoflgbnaaaWMore
import Derived.Test.YtpkafcoflgbnaaaProg
import Derived.Test.YtpkafcoflgbnaaaShelf
import Derived.OwnWalk
import Derived.Handy
import Derived.Deep.DeepMust
import Derived.Lib.Hide
import Derived.Outline
import Derived.IntWalk
import Derived.Deep.RegionWith
import Derived.RangeFuncBox
import Derived.Lib.OwnBridge
import Derived.OneCell
import Derived.StillTailTactics
import Derived.Test.YtpkafcoflgbnaaaWh1
import Derived.Deep.QuietTactic
import Derived.BigQuiet
namespace Go.Proofs.Ytpkafcoflgbnaaa.Q
open Go.RowKit Go.Proofs.YtpkafcoflgbnaaaW.PrintWords Go.Proofs.YtpkafcoflgbnaaaW.PrintLast Go.Proofs.YtpkafcoflgbnaaaW.PrintMore Go.Shelf
set_option linter.unusedVariables false
set_option linter.unusedSimpArgs false
/-! Commands: the first signal that the text begins with, again and again. -/
def firstI (C : List ByteArray) (p : ByteArray → Bool) : Int := Lib.idxBy (fun _ y => p y) C ByteArray.empty
theorem firstI_from (p : ByteArray → Bool) (x : ByteArray) : ∀ (C : List ByteArray) (k : Nat), (Lib.idxByFrom (fun _ y => p y) x C k = -1 ∧ ∀ i, i < C.length → p (C.getD i ByteArray.empty) = false) ∨
    ∃ i, i < C.length ∧ Lib.idxByFrom (fun _ y => p y) x C k = ((k + i : Nat) : Int) ∧ p (C.getD i ByteArray.empty) = true ∧ ∀ j, j < i → p (C.getD j ByteArray.empty) = false
  | [], k => .inl ⟨rfl, fun i hi => absurd hi (Nat.not_lt_zero _)⟩
  | y :: r, k => by
    simp only [Lib.idxByFrom]
    by_cases h : p y = true
    · rw [if_pos h]
      exact .inr ⟨0, by simp, by simp, h, fun j hj => absurd hj (Nat.not_lt_zero _)⟩
    · rw [if_neg h]
      have h' := Bool.eq_false_iff.2 h
      rcases firstI_from p x r (k + 1) with ⟨e, hn⟩ | ⟨i, hi, e, ht, hn⟩
      · exact .inl ⟨e, fun i hi => by
          cases i with
          | zero => exact h'
          | succ i => exact hn i (by simpa using hi)⟩
      · exact .inr ⟨i + 1, by simp; omega, by rw [e]; congr 1; omega, ht, fun j hj => by
          cases j with
          | zero => exact h'
          | succ j => exact hn j (by omega)⟩
theorem firstI_cases (C : List ByteArray) (p : ByteArray → Bool) : (firstI C p = -1 ∧ ∀ i, i < C.length → p (C.getD i ByteArray.empty) = false) ∨
    ∃ i, i < C.length ∧ firstI C p = (i : Int) ∧ p (C.getD i ByteArray.empty) = true ∧ ∀ j, j < i → p (C.getD j ByteArray.empty) = false := by
  rcases firstI_from p ByteArray.empty C 0 with h | ⟨i, h1, h2, h3⟩
  · exact .inl h
  · exact .inr ⟨i, h1, by rw [Nat.zero_add] at h2; exact h2, h3⟩
theorem headB_size {y x : ByteArray} (h : headB y x = true) : x.size ≤ y.size := by
  unfold headB Lib.hasPrefix at h
  have := (List.isPrefixOf_iff_prefix.1 h).length_le
  rw [Array.length_toList, Array.length_toList] at this
  exact this
theorem pref_calls (t s : ByteArray) (W : World) : Calls Try.prog 58 #[.string t, .string s] W fun e w' => e = .returned (.bool (headB t s)) ∧ w' = W := Try.strings_HasPrefix t s W
theorem pre85 (B : Nat) (s t : ByteArray) (W : World) (hB : W.cell? ⟨B, 0, none⟩ = some (.string t)) :
    Calls Try.prog 85 #[.string s, .pointer (some ⟨B, 0, none⟩)] W fun e w' => e = .returned (.bool (headB t s)) ∧ w' = W := by
  go_enter Try.func85, Try.ntmps85
  go_wp2_with (first | (go_at_call 58; go_must (with_reducible refine (pref_calls _ _ _).mono ?_); rintro e w' ⟨rfl, rfl⟩))
  first | go_end0 | go_returns | go_ret
  exact ⟨rfl, rfl⟩
theorem idx85 (B : Nat) (t : ByteArray) (A0 : Option Addr) (c0 : Nat) (C : List ByteArray) (W : World) (h0 : 0 < C.length) (hr0 : Kd.C Kd.string W A0 C.length C) (hB : W.cell? ⟨B, 0, none⟩ = some (.string t)) :
    Calls Try.prog 84 #[.slice A0 C.length c0, .func (.func 85) #[] #[.pointer (some ⟨B, 0, none⟩)]] W fun e w' => e = .returned (.int .i64 (firstI C (headB t))) ∧ ∃ q, w' = W.drewN q := by
  rcases str_at hr0 with e | ⟨b, off, e, hc⟩
  · subst e; simp at h0
  · subst e
    letI : Inhabited ByteArray := ⟨ByteArray.empty⟩
    refine (Try.slices_IndexFunc_f84 Value.string (headB t) 85 #[.pointer (some ⟨B, 0, none⟩)] (enters_of Try.func85 (by kernel_rfl) rfl) b off C.length c0 C W (fun W' x hb => ?_) (Nat.le_refl _) hr0.2.1 (fun j hj => ?_)).mono ?_
    · show Calls Try.prog 85 #[.string x, .pointer (some ⟨B, 0, none⟩)] W' _
      refine (pre85 B x t W' ((hb.cell (World.block_lt_of_cell? W _ hB)).trans hB)).mono ?_
      rintro e w' ⟨rfl, rfl⟩
      exact ⟨rfl, 0, rfl⟩
    · rw [hc j hj, getD_str C j hj, getElem!_pos C j hj]
    · rintro e w' ⟨rfl, q, rfl⟩
      rw [List.take_length]
      exact ⟨rfl, q, rfl⟩
theorem own_lower {w : World} {b base : Nat} {e : TypeId} {v : Value} {n : Nat} {xs : List Value} (h : w.ownsRow base e 1 v n xs) (hb : b ≤ base) : w.ownsRow b e 1 v n xs := by
  rcases h.2 with hn | ⟨g, cap, cur, rfl, h1, h2⟩
  · exact ⟨h.1, .inl hn⟩
  · exact ⟨h.1, .inr ⟨g, cap, cur, rfl, by omega, h2⟩⟩
def cmdF (C : List ByteArray) : Nat → ByteArray → List ByteArray → Option (List ByteArray × ByteArray)
  | 0, _, _ => none
  | k + 1, t, o => if t.size ≤ 100000 ∧ o.length ≤ 100000 then (if firstI C (headB t) < 0 then some (o, t) else cmdF C k (t.extract (C.getD (firstI C (headB t)).toNat ByteArray.empty).size t.size) (o ++ [C.getD (firstI C (headB t)).toNat ByteArray.empty])) else none
theorem Boxed.below {W W' : World} {B : Nat} {t : TypeId} {v : Value} (h : Boxed W B t v) (hb : Below W.heap.size W W') : Boxed W' B t v := (hb.block B (Boxed.lt h)).trans h
theorem cmdF_mono (C : List ByteArray) : ∀ k t o r, cmdF C k t o = some r → cmdF C (k + 1) t o = some r
  | 0, _, _, _, h => by simp [cmdF] at h
  | k + 1, t, o, r, h => by
    unfold cmdF at h ⊢
    split at h
    · rename_i hc
      rw [if_pos hc]
      split at h
      · rename_i h2
        rw [if_pos h2]; exact h
      · rename_i h2
        rw [if_neg h2]; exact cmdF_mono C k _ _ r h
    · cases h
theorem cmd_bad (A0 : Option Addr) (n0 c0 : Nat) (t : ByteArray) (e0 : Int) (w : World) (hne : e0 ≠ 0) (hv : AtLater w (RetI 83 #[.slice A0 n0 c0, .string t] e0)) :
    Calls Try.prog 41 #[.slice A0 n0 c0, .string t] w fun e w' => e = .returned (.tuple #[.slice none 0 0, .string ⟨#[]⟩, .int .i64 e0]) ∧ Below w.heap.size w w' := by
  have h1 : (e0 == 0) = false := by simpa using hne
  have h2 : (e0 != 0) = true := by simpa using hne
  have HV := Lib.hid (show ∀ W, Below w.heap.size w W → Calls Try.prog 83 #[.slice A0 n0 c0, .string t] W fun e w' => e = .returned (.int .i64 e0) ∧ Below W.heap.size W w' from hv)
  clear hne hv
  go_enter Try.func41, Try.ntmps41
  go_wp2_with (first | (go_at_call 83; go_must (with_reducible refine (HV.out _ ((Below.refl _ _).alloc (Nat.le_refl _) _)).mono ?_); rintro e w' ⟨rfl, hb⟩))
  go_ret3
  exact ⟨rfl, ((Below.refl _ _).alloc (Nat.le_refl _) _).trans (hb.mono (by simp))⟩
def CmdAt (w : World) (t : ByteArray) (v : Value) (o : List ByteArray) (W : World) : Prop := Boxed W w.heap.size 9 (.string t) ∧ W.ownsRow (w.heap.size + 1) 9 1 v o.length (o.map Value.string) ∧ Below w.heap.size w W
set_option maxHeartbeats 4000000 in
set_option maxRecDepth 100000 in
theorem cmd_ok (k : Nat) (A0 : Option Addr) (c0 : Nat) (C : List ByteArray) (t : ByteArray) (r1 : List ByteArray) (r2 : ByteArray) (w : World) (hr0 : Kd.C Kd.string w A0 C.length C) (hC0 : 0 < C.length) (hC : C.length ≤ 100)
    (hv : AtLater w (RetI 83 #[.slice A0 C.length c0, .string t] 0)) (hg : cmdF C k t [] = some (r1, r2)) :
    Calls Try.prog 41 #[.slice A0 C.length c0, .string t] w fun e w' => ∃ v, e = .returned (.tuple #[v, .string r2, .int .i64 0]) ∧ w'.ownsRow w.heap.size 9 1 v r1.length (r1.map Value.string) ∧ Below w.heap.size w w' := by
  obtain ⟨i0, hi, hz0, hz1, hz2⟩ := info_parts info9
  have hcode := fun W hB j hj => @code_at w W A0 C hr0 hB j hj
  have hrow := fun W (hB : Below w.heap.size w W) => Kd.C_below hr0 hB
  have HC := Lib.hid hcode
  have HR := Lib.hid hrow
  have HV := Lib.hid (show ∀ W, Below w.heap.size w W → Calls Try.prog 83 #[.slice A0 C.length c0, .string t] W fun e w' => e = .returned (.int .i64 0) ∧ Below W.heap.size W w' from hv)
  have HG := Lib.hid hg
  clear hcode hrow hr0 hv hg
  go_enter Try.func41, Try.ntmps41
  go_wp2_with (first | (go_at_call 83; go_must (with_reducible refine (HV.out _ ((Below.refl _ _).alloc (Nat.le_refl _) _)).mono ?_); rintro e w1 ⟨rfl, hb1⟩))
  have hbox := Boxed.below (Boxed.new w 9 (.string t)) hb1
  have hB : Below w.heap.size w w1 := ((Below.refl _ _).alloc (Nat.le_refl _) _).trans (hb1.mono (by simp))
  clear hb1
  go_loopg [8] k (fun f p wr => ∃ (t : ByteArray) (o : List ByteArray), CmdAt w t p o wr ∧ Hid (cmdF C f t o = some (r1, r2)))
  case atStart => exact ⟨t, [], ⟨hbox, World.ownsRow_nil _ _ _ _, hB⟩, HG⟩
  case round =>
    clear hbox hB HG
    obtain ⟨t, o, ⟨hbox, ho, hB⟩, HG⟩ := hrel
    cases gk with
    | zero => exact absurd HG.out (by simp [cmdF])
    | succ f =>
      have hg := HG.out
      clear HG
      unfold cmdF at hg
      split at hg
      · rename_i hsz
        obtain ⟨hsz1, hsz2⟩ := hsz
        have hidx := idx85 w.heap.size t A0 c0 C wr hC0 (HR.out _ hB) hbox.cell
        have hcell := hbox.cell
        rcases firstI_cases C (headB t) with ⟨e, _⟩ | ⟨i, hi1, e, ht, _⟩
        · rw [e, if_pos (by decide)] at hg
          rw [e] at hidx
          obtain ⟨rfl, rfl⟩ := Prod.mk.inj (Option.some.inj hg)
          clear hg e
          go_wp2_with (first | (go_at_call 84; go_must (with_reducible refine hidx.mono ?_); rintro e w2 ⟨rfl, q, rfl⟩; have hboxq := Boxed.below hbox (pw_below_drewN (Below.refl wr.heap.size wr) q); have hbox7 := hboxq.cell))
          go_quiet (fail)
          go_wp2
          go_ret3
          exact ⟨_, rfl, own_lower (own_below ho (pw_below_drewN (pw_below_drewN (Below.refl _ _) _) _)) (by omega), pw_below_drewN (pw_below_drewN hB _) _⟩
        · rw [e, if_neg (by omega), Int.toNat_natCast] at hg
          rw [e] at hidx
          have HG := Lib.hid hg
          have hdi : decide ((i : Int) < 0) = false := decide_eq_false (by omega)
          have hdi0 : decide (0 ≤ (i : Int)) = true := decide_eq_true (by omega)
          have hdi1 : decide ((i : Int) < (C.length : Int)) = true := decide_eq_true (by omega)
          have hs := headB_size ht
          obtain ⟨ad, rfl, hci⟩ := HC.out _ hB i hi1
          clear hg e ht
          obtain ⟨s, hse⟩ : ∃ s, C.getD i ByteArray.empty = s := ⟨_, rfl⟩
          have HSE := Lib.hid hse
          have Hst := Lib.hid (show (o ++ [C.getD i ByteArray.empty]).length = o.length + 1 by simp)
          rw [hse] at hs hci
          clear hse
          have hs0 : decide (0 ≤ (s.size : Int)) = true := decide_eq_true (by omega)
          have hs1 : decide ((s.size : Int) ≤ (t.size : Int)) = true := decide_eq_true (by omega)
          go_wp2_with (first | (go_at_call 84; go_must (with_reducible refine hidx.mono ?_); rintro e w2 ⟨rfl, q, rfl⟩; have hboxq := Boxed.below hbox (pw_below_drewN (Below.refl wr.heap.size wr) q); have hbox7 := hboxq.cell; have ho7 := (own_below ho (pw_below_drewN (Below.refl _ _) q)).alloc (.cells #[.string s] 9)) | (at_builtin; refine wpList_append_own _ rfl _ _ 22 rfl (w.heap.size + 1) 9 i0 (.string ⟨#[]⟩) 1 16 Try.underlying22 hi hz0 hz1 hz2 rfl (by decide) _ _ _ rfl ho7 ⟨_, 0, none⟩ 1 1 [.string s] rfl rfl (new_cell _ _ _) (fun u hu => by rw [List.mem_singleton] at hu; subst hu; rfl) (by unfold maxLen; omega) (by omega) (by have := hB.size; have := hbox.lt; simp at *; omega) ?_; intro v' w8 hown' hgrow _))
          have hB8 := ((pw_below_drewN hB q).alloc (by have := hB.size; simp; omega) (.cells #[.string s] 9)).grown hgrow (by have := hB.size; simp; omega) (fun k hk => by have := (ho7.lt k hk).1; omega)
          have hbox8 := (hboxq.alloc (.cells #[.string s] 9)).kept hgrow (fun e => absurd (ho7.lt _ e.symm).1 (Nat.not_succ_le_self _))
          have hcell8 := hbox8.cell
          obtain ⟨ad2, ea, hci8⟩ := HC.out _ hB8 i hi1
          cases ea
          rw [HSE.out] at hci8
          clear hgrow
          go_still_tail 7, (by kernel_rfl)
          change wpList _ _ _ _ _ w8.drew
          have hbox9 : Boxed w8.drew w.heap.size 9 (.string t) := hbox8
          have hB9 : Below w.heap.size w w8.drew := below_drew1 hB8
          have ho9 : w8.drew.ownsRow (w.heap.size + 1) 9 1 v' (o.length + 1) _ := hown'
          generalize w8.drew = w9 at *
          have hcell9 := hbox9.cell
          have hfz9 := hbox9.frozen
          go_wp2
          go_roundg f
          case measure => omega
          case rel => exact ⟨_, _, ⟨by rw [HSE.out]; exact hbox9.set _, by rw [Hst.out, List.map_append, HSE.out]; exact ownsRow_setCell_below ho9 (Nat.lt_succ_self _) _, hB9.setCell (Nat.le_refl _) _⟩, HG⟩
      · cases hg
/-! Decode: the first signal that leaves a rest with a way. -/
def okAt (ways : List Int) (t : ByteArray) (p : Nat) (s : ByteArray) : Bool := headB (t.extract p t.size) s && decide (rd ways ((p + s.size : Nat) : Int) > 0)
theorem okAt_fits {t s : ByteArray} {p : Nat} (hp : p ≤ t.size) (h : headB (t.extract p t.size) s = true) : p + s.size ≤ t.size := by
  have := headB_size h
  rw [ByteArray.size_extract] at this
  omega
theorem add_none0 {W : World} {ad : Addr} {v : Value} (h : W.cell? (ad.add (0 : Int).toNat) = some v) : W.cell? ad = some v := by
  have e : ad.add (0 : Int).toNat = ad := by cases ad; simp [Addr.add]
  rwa [e] at h
set_option maxHeartbeats 1000000 in
theorem pre96 (T B G : Nat) (s t : ByteArray) (p : Nat) (A : Option Addr) (cc : Nat) (ways : List Int) (W : World) (hT : W.cell? ⟨T, 0, none⟩ = some (.string t)) (hB : W.cell? ⟨B, 0, none⟩ = some (.int .i64 (p : Int))) (hG : W.cell? ⟨G, 0, none⟩ = some (.slice A ways.length cc))
    (hw : Kd.C (Kd.int .i64) W A ways.length ways) (hp : p ≤ t.size) (hl : ways.length = t.size + 1) (hz : t.size ≤ 100000) :
    Calls Try.prog 96 #[.string s, .pointer (some ⟨T, 0, none⟩), .pointer (some ⟨B, 0, none⟩), .pointer (some ⟨G, 0, none⟩)] W fun e w' => e = .returned (.bool (okAt ways t p s)) ∧ w' = W := by
  have d1 : decide (0 ≤ (p : Int)) = true := decide_eq_true (by omega)
  have d2 : decide ((p : Int) ≤ (t.size : Int)) = true := decide_eq_true (by omega)
  cases h : headB (t.extract p t.size) s
  · have He := Lib.hid (show okAt ways t p s = false by unfold okAt; rw [h]; rfl)
    have hcall := pref_calls (t.extract p t.size) s
    rw [h] at hcall
    clear h
    go_enter Try.func96, Try.ntmps96
    go_wp2_with (first | (go_at_call 58; go_must (with_reducible refine (hcall _).mono ?_); rintro e w' ⟨rfl, rfl⟩))
    first | go_end0 | go_returns | go_ret
    exact ⟨by rw [He.out]; rfl, rfl⟩
  · have hf := okAt_fits hp h
    have He := Lib.hid (show okAt ways t p s = decide (rd ways ((p + s.size : Nat) : Int) > 0) by unfold okAt; rw [h]; rfl)
    have hcall := pref_calls (t.extract p t.size) s
    rw [h] at hcall
    clear h
    obtain ⟨ad, rfl, hci⟩ := Kd.at_int hw ((p + s.size : Nat) : Int) (by omega) (by omega)
    rw [Int.toNat_natCast] at hci
    have hwr : IntKind.i64.wrap ((p : Int) + (s.size : Int)) = ((p + s.size : Nat) : Int) := by
      have e : IntKind.i64.wrap ((p : Int) + (s.size : Int)) = wrap64 ((p : Int) + (s.size : Int)) := i64_w _
      rw [e]; unfold wrap64; omega
    generalize hq : p + s.size = q at *
    have d3 : decide (0 ≤ (q : Int)) = true := decide_eq_true (by omega)
    have d4 : decide ((q : Int) < (ways.length : Int)) = true := decide_eq_true (by omega)
    have d5 : decide (q < ways.length) = true := decide_eq_true (by omega)
    have d6 : q < ways.length := by omega
    generalize rd ways (q : Int) = x at *
    clear hw hl hq
    go_enter Try.func96, Try.ntmps96
    go_wp2_with (first | (go_at_call 58; go_must (with_reducible refine (hcall _).mono ?_); rintro e w' ⟨rfl, rfl⟩))
    first | go_end0 | go_returns | go_ret
    exact ⟨by rw [He.out]; rfl, rfl⟩
theorem idx96 (T B G : Nat) (t : ByteArray) (p : Nat) (A : Option Addr) (cc : Nat) (ways : List Int) (A0 : Option Addr) (c0 : Nat) (C : List ByteArray) (W : World) (h0 : 0 < C.length) (hr0 : Kd.C Kd.string W A0 C.length C) (hT : W.cell? ⟨T, 0, none⟩ = some (.string t)) (hB : W.cell? ⟨B, 0, none⟩ = some (.int .i64 (p : Int))) (hG : W.cell? ⟨G, 0, none⟩ = some (.slice A ways.length cc))
    (hw : Kd.C (Kd.int .i64) W A ways.length ways) (hp : p ≤ t.size) (hl : ways.length = t.size + 1) (hz : t.size ≤ 100000) :
    Calls Try.prog 84 #[.slice A0 C.length c0, .func (.func 96) #[] #[.pointer (some ⟨T, 0, none⟩), .pointer (some ⟨B, 0, none⟩), .pointer (some ⟨G, 0, none⟩)]] W fun e w' => e = .returned (.int .i64 (firstI C (okAt ways t p))) ∧ ∃ q, w' = W.drewN q := by
  rcases str_at hr0 with e | ⟨b, off, e, hc⟩
  · subst e; simp at h0
  · subst e
    letI : Inhabited ByteArray := ⟨ByteArray.empty⟩
    refine (Try.slices_IndexFunc_f84 Value.string (okAt ways t p) 96 #[.pointer (some ⟨T, 0, none⟩), .pointer (some ⟨B, 0, none⟩), .pointer (some ⟨G, 0, none⟩)] (enters_of Try.func96 (by kernel_rfl) rfl) b off C.length c0 C W (fun W' x hb => ?_) (Nat.le_refl _) hr0.2.1 (fun j hj => ?_)).mono ?_
    · show Calls Try.prog 96 #[.string x, .pointer (some ⟨T, 0, none⟩), .pointer (some ⟨B, 0, none⟩), .pointer (some ⟨G, 0, none⟩)] W' _
      refine (pre96 T B G x t p A cc ways W' ((hb.cell (World.block_lt_of_cell? W _ hT)).trans hT) ((hb.cell (World.block_lt_of_cell? W _ hB)).trans hB) ((hb.cell (World.block_lt_of_cell? W _ hG)).trans hG) (Kd.C_below hw hb) hp hl hz).mono ?_
      rintro e w' ⟨rfl, rfl⟩
      exact ⟨rfl, 0, rfl⟩
    · rw [hc j hj, getD_str C j hj, getElem!_pos C j hj]
    · rintro e w' ⟨rfl, q, rfl⟩
      rw [List.take_length]
      exact ⟨rfl, q, rfl⟩
def decF (C : List ByteArray) (t : ByteArray) (ways : List Int) : Nat → Nat → List Int → Option (List Int)
  | 0, _, _ => none
  | k + 1, p, o => if p < t.size then (if o.length ≤ 100000 ∧ 0 ≤ firstI C (okAt ways t p) then decF C t ways k (p + (C.getD (firstI C (okAt ways t p)).toNat ByteArray.empty).size) (o ++ [firstI C (okAt ways t p)]) else none) else some o
theorem decF_mono (C : List ByteArray) (t : ByteArray) (ways : List Int) : ∀ k p o r, decF C t ways k p o = some r → decF C t ways (k + 1) p o = some r
  | 0, _, _, _, h => by simp [decF] at h
  | k + 1, p, o, r, h => by
    unfold decF at h ⊢
    split at h
    · rename_i hc
      rw [if_pos hc]
      split at h
      · rename_i h2
        rw [if_pos h2]; exact decF_mono C t ways k _ _ r h
      · cases h
    · rename_i hc
      rw [if_neg hc]; exact h
theorem dec_bad (A0 : Option Addr) (n0 c0 : Nat) (t : ByteArray) (e0 : Int) (w : World) (hne : e0 ≠ 0) (hv : AtLater w (RetI 83 #[.slice A0 n0 c0, .string t] e0)) :
    Calls Try.prog 49 #[.slice A0 n0 c0, .string t] w fun e w' => e = .returned (.tuple #[.slice none 0 0, .bool false, .int .i64 e0]) ∧ Below w.heap.size w w' := by
  have h1 : (e0 == 0) = false := by simpa using hne
  have h2 : (e0 != 0) = true := by simpa using hne
  have HV := Lib.hid (show ∀ W, Below w.heap.size w W → Calls Try.prog 83 #[.slice A0 n0 c0, .string t] W fun e w' => e = .returned (.int .i64 e0) ∧ Below W.heap.size W w' from hv)
  clear hne hv
  go_enter Try.func49, Try.ntmps49
  go_wp2_with (first | (go_at_call 83; go_must (with_reducible refine (HV.out _ ((Below.refl _ _).alloc (Nat.le_refl _) _)).mono ?_); rintro e w' ⟨rfl, hb⟩))
  go_ret3
  exact ⟨rfl, ((Below.refl _ _).alloc (Nat.le_refl _) _).trans (hb.mono (by simp))⟩
/-- The counts, as the program lays them out. -/
def RetW (args : Array Value) (ways : List Int) (W : World) : Prop := Calls Try.prog 87 args W fun e w' => ∃ A cc, e = .returned (.slice A ways.length cc) ∧ Kd.C (Kd.int .i64) w' A ways.length ways ∧ Below W.heap.size W w'
set_option maxHeartbeats 4000000 in
set_option maxRecDepth 100000 in
theorem dec_none (A0 : Option Addr) (n0 c0 : Nat) (t : ByteArray) (ways : List Int) (w : World) (hl : ways.length = t.size + 1) (h0 : rd ways 0 = 0) (hz : t.size ≤ 100000) (hv : AtLater w (RetI 83 #[.slice A0 n0 c0, .string t] 0)) (hq : AtLater w (RetW #[.slice A0 n0 c0, .string t] ways)) :
    Calls Try.prog 49 #[.slice A0 n0 c0, .string t] w fun e w' => e = .returned (.tuple #[.slice none 0 0, .bool false, .int .i64 0]) ∧ Below w.heap.size w w' := by
  have HV := Lib.hid (show ∀ W, Below w.heap.size w W → Calls Try.prog 83 #[.slice A0 n0 c0, .string t] W fun e w' => e = .returned (.int .i64 0) ∧ Below W.heap.size W w' from hv)
  have HQ := Lib.hid (show ∀ W, Below w.heap.size w W → Calls Try.prog 87 #[.slice A0 n0 c0, .string t] W fun e w' => ∃ A cc, e = .returned (.slice A ways.length cc) ∧ Kd.C (Kd.int .i64) w' A ways.length ways ∧ Below W.heap.size W w' from hq)
  clear hv hq
  have d1 : decide ((0 : Int) < (ways.length : Int)) = true := decide_eq_true (by omega)
  have d2 : decide (0 < ways.length) = true := decide_eq_true (by omega)
  go_enter Try.func49, Try.ntmps49
  go_wp2_with (first | (go_at_call 83; go_must (with_reducible refine (HV.out _ ((Below.refl _ _).alloc (Nat.le_refl _) _)).mono ?_); rintro e w1 ⟨rfl, hb1⟩; have hbox := Boxed.below (Boxed.new w 9 (.string t)) hb1; have hcell := hbox.cell; have hB1 : Below w.heap.size w w1 := ((Below.refl _ _).alloc (Nat.le_refl _) _).trans (hb1.mono (by simp))) | (go_at_call 87; go_must (with_reducible refine (HQ.out _ hB1).mono ?_); rintro e w2 ⟨A, cc, rfl, hw, hb2⟩; have hB2 := hB1.trans (hb2.mono hB1.size); obtain ⟨ad, rfl, hci⟩ := Kd.at_int hw 0 (by omega) (by omega); rw [h0] at hci; have hci2 : w2.cell? ad = some (.int .i64 0) := add_none0 hci; have hci3 : (w2.alloc (.cells #[.slice (some ad) (t.size + 1) cc] 35)).cell? ad = some (.int .i64 0) := (((Below.refl w2.heap.size w2).alloc (Nat.le_refl _) _).cell (World.block_lt_of_cell? _ _ hci2)).trans hci2))
  go_ret3
  exact ⟨rfl, hB2.alloc hB2.size _⟩
theorem one_reads (W : World) (x : Int) (T : TypeId) : ReadsOf (Value.int .i64) 0 (W.alloc (.cells #[.int .i64 x] T)) (some ⟨W.heap.size, 0, none⟩) 1 [x] :=
  ⟨rfl, by decide, fun _ => ⟨_, rfl, fun j hj => by
    obtain rfl : j = 0 := by omega
    exact new_cell W (.int .i64 x) T 0 _ rfl⟩⟩
theorem info3d : (Try.prog.info? 3).map (fun i => (i.zero, i.size, i.bytes)) = some (some (.int .i64 0), 1, 8) := by kernel_rfl
def DecAt (W0 : World) (B q : Nat) (v : Value) (o : List Int) (W : World) : Prop := Boxed W B 3 (.int .i64 (q : Int)) ∧ W0.heap.size ≤ B ∧ W.ownsRow W0.heap.size 3 1 v o.length (o.map (Value.int .i64)) ∧ v.ownBlock ≠ some B ∧ Below W0.heap.size W0 W
set_option maxHeartbeats 8000000 in
set_option maxRecDepth 100000 in
theorem dec_ok (k : Nat) (A0 : Option Addr) (c0 : Nat) (C : List ByteArray) (t : ByteArray) (ways r : List Int) (w : World) (hr0 : Kd.C Kd.string w A0 C.length C) (hC0 : 0 < C.length) (hC : C.length ≤ 100) (hl : ways.length = t.size + 1) (h0 : rd ways 0 ≠ 0) (hz : t.size ≤ 100000)
    (hv : AtLater w (RetI 83 #[.slice A0 C.length c0, .string t] 0)) (hq : AtLater w (RetW #[.slice A0 C.length c0, .string t] ways)) (hg : decF C t ways k 0 [] = some r) :
    Calls Try.prog 49 #[.slice A0 C.length c0, .string t] w fun e w' => ∃ v, e = .returned (.tuple #[v, .bool true, .int .i64 0]) ∧ w'.ownsRow w.heap.size 3 1 v r.length (r.map (Value.int .i64)) ∧ Below w.heap.size w w' := by
  obtain ⟨i0, hi, hz0, hz1, hz2⟩ := info_parts info3d
  have HV := Lib.hid (show ∀ W, Below w.heap.size w W → Calls Try.prog 83 #[.slice A0 C.length c0, .string t] W fun e w' => e = .returned (.int .i64 0) ∧ Below W.heap.size W w' from hv)
  have HQ := Lib.hid (show ∀ W, Below w.heap.size w W → Calls Try.prog 87 #[.slice A0 C.length c0, .string t] W fun e w' => ∃ A cc, e = .returned (.slice A ways.length cc) ∧ Kd.C (Kd.int .i64) w' A ways.length ways ∧ Below W.heap.size W w' from hq)
  have HG := Lib.hid hg
  have HR0 := Lib.hid hr0
  clear hv hq hg hr0
  obtain ⟨x0, hx0⟩ : ∃ x, rd ways 0 = x := ⟨_, rfl⟩
  have hx1 : (x0 == 0) = false := by rw [← hx0]; simpa using h0
  have hx2 : (x0 != 0) = true := by rw [← hx0]; simpa using h0
  clear h0
  have d1 : decide ((0 : Int) < (ways.length : Int)) = true := decide_eq_true (by omega)
  have d2 : decide (0 < ways.length) = true := decide_eq_true (by omega)
  go_enter Try.func49, Try.ntmps49
  go_wp2_with (first | (go_at_call 83; go_must (with_reducible refine (HV.out _ ((Below.refl _ _).alloc (Nat.le_refl _) _)).mono ?_); rintro e w1 ⟨rfl, hb1⟩; have hbox := Boxed.below (Boxed.new w 9 (.string t)) hb1; have hcell := hbox.cell; have hB1 : Below w.heap.size w w1 := ((Below.refl _ _).alloc (Nat.le_refl _) _).trans (hb1.mono (by simp))) | (go_at_call 87; go_must (with_reducible refine (HQ.out _ hB1).mono ?_); rintro e w2 ⟨A, cc, rfl, hw, hb2⟩; have hB2 := hB1.trans (hb2.mono hB1.size); have hbox2 := Boxed.below hbox hb2; obtain ⟨ad, rfl, hci⟩ := Kd.at_int hw 0 (by omega) (by omega); rw [hx0] at hci; have hci2 : w2.cell? ad = some (.int .i64 x0) := add_none0 hci; have hci3 : (w2.alloc (.cells #[.slice (some ad) (t.size + 1) cc] 35)).cell? ad = some (.int .i64 x0) := (((Below.refl w2.heap.size w2).alloc (Nat.le_refl _) _).cell (World.block_lt_of_cell? _ _ hci2)).trans hci2; clear hci))
  obtain ⟨W0, hW0⟩ : ∃ W0, w2.alloc (.cells #[.slice (some ad) (t.size + 1) cc] 35) = W0 := ⟨_, rfl⟩
  have hB0 : Below w.heap.size w W0 := by rw [← hW0]; exact hB2.alloc hB2.size _
  have hT0 : Boxed W0 w.heap.size 9 (.string t) := by rw [← hW0]; exact hbox2.alloc _
  have hG0 : Boxed W0 w2.heap.size 35 (.slice (some ad) (t.size + 1) cc) := by rw [← hW0]; exact Boxed.new _ _ _
  have hw0 : Kd.C (Kd.int .i64) W0 (some ad) ways.length ways := by rw [← hW0]; exact Kd.C_alloc hw _
  have hsz0 : W0.heap.size = w2.heap.size + 1 := by rw [← hW0]; simp
  have hfst : DecAt W0 (w2.heap.size + 1) 0 (.slice none 0 0) [] (W0.alloc (.cells #[.int .i64 0] 3)) := by
    rw [← hsz0]
    exact ⟨Boxed.new _ _ _, Nat.le_refl _, World.ownsRow_nil _ _ _ _, (by intro e; cases e), (Below.refl _ _).alloc (Nat.le_refl _) _⟩
  have HT := Lib.hid (fun W (hB : Below W0.heap.size W0 W) => (Boxed.below hT0 hB).cell)
  have HGb := Lib.hid (fun W (hB : Below W0.heap.size W0 W) => (Boxed.below hG0 hB).cell)
  have HW := Lib.hid (fun W (hB : Below W0.heap.size W0 W) => Kd.C_below hw0 hB)
  have HB0 := Lib.hid hB0
  have HR := Lib.hid (fun W (hB : Below W0.heap.size W0 W) => Kd.C_below HR0.out (hB0.trans (hB.mono hB0.size)))
  have HC := Lib.hid (fun W (hB : Below W0.heap.size W0 W) j hj => @code_at w W A0 C HR0.out (hB0.trans (hB.mono hB0.size)) j hj)
  generalize w2.heap.size = G at *
  rw [hW0]
  clear hW0 hB0 hT0 hG0 hw0 hw hci2 hci3 hbox2 hB2 hb2 hbox hcell hB1 hb1 hsz0 HR0
  go_loopg [9, 10] k (fun f v p wr => ∃ (B q : Nat) (o : List Int), p = .pointer (some ⟨B, 0, none⟩) ∧ q ≤ t.size ∧ DecAt W0 B q v o wr ∧ Hid (decF C t ways f q o = some r))
  case atStart => exact ⟨_, 0, [], rfl, Nat.zero_le _, hfst, HG⟩
  case round =>
    clear hfst HG
    obtain ⟨B, q, o, rfl, hqt, ⟨hbox, hBl, ho, hne, hB⟩, HG⟩ := hrel
    cases gk with
    | zero => exact absurd HG.out (by simp [decF])
    | succ f =>
      have hg := HG.out
      have hcT := HT.out _ hB
      have hcB := hbox.cell
      clear HG
      unfold decF at hg
      by_cases hlt : q < t.size
      · rw [if_pos hlt] at hg
        have dq : decide ((q : Int) < (t.size : Int)) = true := decide_eq_true (by omega)
        have dq2 : decide (q < t.size) = true := decide_eq_true hlt
        split at hg
        · rename_i hsz
          obtain ⟨hsz1, hsz2⟩ := hsz
          have hidx := idx96 w.heap.size B G t q (some ad) cc ways A0 c0 C wr hC0 (HR.out _ hB) hcT hcB (by rw [hl]; exact HGb.out _ hB) (HW.out _ hB) hqt hl hz
          rcases firstI_cases C (okAt ways t q) with ⟨e, _⟩ | ⟨i, hi1, e, ht, _⟩
          · rw [e] at hsz2; exact absurd hsz2 (by decide)
          · rw [e, Int.toNat_natCast] at hg
            rw [e] at hidx
            have HG := Lib.hid hg
            have hfit : q + (C.getD i ByteArray.empty).size ≤ t.size := by
              unfold okAt at ht
              rw [Bool.and_eq_true] at ht
              exact okAt_fits hqt ht.1
            have hdi0 : decide (0 ≤ (i : Int)) = true := decide_eq_true (by omega)
            have hdi1 : decide ((i : Int) < (C.length : Int)) = true := decide_eq_true (by omega)
            clear hg e ht hsz2
            obtain ⟨s, hse⟩ : ∃ s, C.getD i ByteArray.empty = s := ⟨_, rfl⟩
            have HSE := Lib.hid hse
            rw [hse] at hfit
            clear hse
            obtain ⟨q2, hq2⟩ : ∃ q2, q + s.size = q2 := ⟨_, rfl⟩
            rw [hq2] at hfit
            have hwr : IntKind.i64.wrap ((q : Int) + (s.size : Int)) = (q2 : Int) := by
              have e : IntKind.i64.wrap ((q : Int) + (s.size : Int)) = wrap64 ((q : Int) + (s.size : Int)) := i64_w _
              rw [e]; unfold wrap64; omega
            have HQ2 := Lib.hid hq2
            clear hq2
            obtain ⟨ad2, rfl, _⟩ := HC.out _ hB i hi1
            go_wp2_with (first | (go_at_call 84; go_must (with_reducible refine hidx.mono ?_); rintro e w3 ⟨rfl, qq, rfl⟩; have ho7 := (own_below ho (pw_below_drewN (Below.refl _ _) qq)).alloc (.cells #[.int .i64 (i : Int)] 3); have hB7 := (pw_below_drewN hB qq).alloc (pw_below_drewN hB qq).size (.cells #[.int .i64 (i : Int)] 3); have hbox7 := (Boxed.below hbox (pw_below_drewN (Below.refl wr.heap.size wr) qq)).alloc (.cells #[.int .i64 (i : Int)] 3)) | (at_builtin; refine print_append_row_of (w0 := W0) (Value.int .i64) 0 W0.heap.size rfl _ _ 35 3 (.int .i64 0) 8 rfl Try.underlying35 info3d rfl (by decide) (fun _ => rfl) _ o [(i : Int)] _ 1 _ rfl rfl ho7 (one_reads _ _ _) hB7 hB7.size (by omega) ?_; intro v' w8 hown' hB8 hgrow hat))
            have hgrow2 : World.grownBy _ w8 u9.ownBlock := hgrow
            have hat2 : v'.ownBlock = u9.ownBlock ∨ ∃ b, v'.ownBlock = some b ∧ _ ≤ b := hat
            have hbox8 := hbox7.kept hgrow2 (fun e => hne e.symm)
            have hne8 : v'.ownBlock ≠ some B := by
              rcases hat2 with e | ⟨b, e, hb⟩
              · rw [e]; exact hne
              · intro h
                rw [e] at h
                injection h with h
                have := hbox7.lt
                omega
            obtain ⟨ad3, ea, hci8⟩ := HC.out _ hB8 i hi1
            cases ea
            rw [HSE.out] at hci8
            have hcell8 := hbox8.cell
            clear hgrow hat hgrow2 hat2
            go_still_tail 7, (by kernel_rfl)
            change wpList _ _ _ _ _ w8.drew
            have hbox9 : Boxed w8.drew B 3 (.int .i64 (q : Int)) := hbox8
            have hB9 : Below W0.heap.size W0 w8.drew := below_drew1 hB8
            have ho9 : w8.drew.ownsRow W0.heap.size 3 1 v' (o ++ [(i : Int)]).length ((o ++ [(i : Int)]).map (Value.int .i64)) := hown'
            generalize w8.drew = w9 at *
            have hcell9 := hbox9.cell
            have hfz9 := hbox9.frozen
            have hbox10 := hbox9.set (.int .i64 (q2 : Int))
            have ho10 := ownsRow_setCell_other ho9 (a := ⟨B, 0, none⟩) hne8 (.int .i64 (q2 : Int))
            have hB10 := hB9.setCell (p := ⟨B, 0, none⟩) hBl (.int .i64 (q2 : Int))
            have hcell10 := hbox10.cell
            go_wp2
            go_roundg f
            case measure => omega
            case rel => exact ⟨_, q2, _, rfl, hfit, ⟨by have := Boxed.new (w9.setCell ⟨B, 0, none⟩ (.int .i64 (q2 : Int))) 3 (.int .i64 (q2 : Int)); rwa [World.size_setCell] at this, by have := hB10.size; rwa [World.size_setCell] at this, ho10.alloc _, fun e => absurd (ho9.lt _ e).2 (Nat.lt_irrefl _), hB10.alloc hB10.size _⟩, Lib.hid (by have := HG.out; rw [HSE.out, HQ2.out] at this; exact this)⟩
        · cases hg
      · rw [if_neg hlt] at hg
        obtain rfl := Option.some.inj hg
        have dq : decide ((q : Int) < (t.size : Int)) = false := decide_eq_false (by omega)
        have dq2 : decide (q < t.size) = false := decide_eq_false hlt
        go_wp2
        go_ret3
        exact ⟨_, rfl, own_lower ho HB0.out.size, HB0.out.trans (hB.mono HB0.out.size)⟩
end Go.Proofs.Ytpkafcoflgbnaaa.Q
