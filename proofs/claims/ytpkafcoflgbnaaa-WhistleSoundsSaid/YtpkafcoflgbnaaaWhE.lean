/- IsSafe over what is left over. -/
import Derived.Test.YtpkafcoflgbnaaaWLast
import Derived.Test.YtpkafcoflgbnaaaWMore
import Derived.Test.YtpkafcoflgbnaaaProg
import Derived.Test.YtpkafcoflgbnaaaShelf
import Derived.OwnWalk
import Derived.Handy
import Derived.Deep.DeepMust
import Derived.Lib.Hide
import Derived.Outline
import Derived.IntWalk
import Derived.Deep.RegionWith
import Derived.RangeFuncBox
import Derived.Test.YtpkafcoflgbnaaaWhD
namespace Go.Proofs.Ytpkafcoflgbnaaa.Q
open Go.RowKit Go.Proofs.YtpkafcoflgbnaaaW.PrintWords Go.Proofs.YtpkafcoflgbnaaaW.PrintLast Go.Proofs.YtpkafcoflgbnaaaW.PrintMore 
set_option linter.unusedVariables false
set_option linter.unusedSimpArgs false
/-! IsSafe's closure; the whole of IsSafe over ends. -/
theorem length_sortS (o : List ByteArray) : (sortS o).length = o.length := by unfold sortS; simp
theorem ends_given (k : Nat) (A0 : Option Addr) (c0 : Nat) (C r : List ByteArray) (w : World) (hr0 : Kd.C Kd.string w A0 C.length C) (h : endsL k C = some r) :
    Calls Try.prog 52 #[.slice A0 C.length c0] w fun e w' => ∃ v0, e = .returned v0 ∧ w'.ownsRow w.heap.size 9 1 v0 r.length (r.map Value.string) ∧ Below w.heap.size w w' := by
  unfold endsL at h
  split at h
  · rename_i hc
    obtain ⟨o, ho, rfl⟩ := Option.map_eq_some_iff.1 h
    rw [length_sortS]
    exact ends_walk k A0 c0 C o w hr0 hc ho
  · cases h
theorem goB_len (C : List ByteArray) : ∀ f o i r, goB C f o i = some r → r.length ≤ 100000
  | 0, _, _, _, h => by simp [goB] at h
  | f + 1, o, i, r, h => by
    unfold goB at h
    split at h
    · rename_i hc
      split at h
      · exact goB_len C f _ _ r h
      · obtain rfl := Option.some.inj h; exact hc
    · cases h
theorem endsL_len {k : Nat} {C r : List ByteArray} (h : endsL k C = some r) : r.length ≤ 100000 := by
  unfold endsL at h
  split at h
  · obtain ⟨o, ho, rfl⟩ := Option.map_eq_some_iff.1 h
    rw [length_sortS]
    exact goB_len C _ _ _ _ ho
  · cases h
theorem endsL_mono (k : Nat) (C r : List ByteArray) (h : endsL k C = some r) : endsL (k + 1) C = some r := by
  unfold endsL at h ⊢
  split at h
  · rename_i hc
    rw [if_pos hc]
    obtain ⟨o, ho, rfl⟩ := Option.map_eq_some_iff.1 h
    rw [goB_mono C _ _ _ _ ho]; rfl
  · cases h
theorem inE_calls (B n₀ : Nat) (s : ByteArray) (v : Value) (l : List ByteArray) (W : World) (hB : W.cell? ⟨B, 0, none⟩ = some v) (ho : W.ownsRow n₀ 9 1 v l.length (l.map Value.string)) (hl : l.length ≤ 100000) :
    Calls Try.prog 55 #[.string s, .pointer (some ⟨B, 0, none⟩)] W fun e w' => e = .returned (.bool (Lib.containsS l s)) ∧ w' = W := by
  have hhas := has_own s (by omega) ho
  go_enter Try.func55, Try.ntmps55
  go_wp2_with (first | (go_at_call 56; go_must (with_reducible refine hhas.mono ?_); rintro e w' ⟨rfl, rfl⟩))
  first | go_end0 | go_returns | go_ret
  exact ⟨rfl, rfl⟩
theorem own_below {w w' : World} {base : Nat} {v : Value} {xs : List Value} {e : TypeId} {n : Nat} (h : w.ownsRow base e 1 v n xs) (hb : Below w.heap.size w w') : w'.ownsRow base e 1 v n xs := by
  rcases h.2 with hn | ⟨g, cap, cur, rfl, h1, hg, h3⟩
  · exact ⟨h.1, .inl hn⟩
  · exact ⟨h.1, .inr ⟨g, cap, cur, rfl, h1, (hb.block g (Array.getElem?_eq_some_iff.1 hg).1).trans hg, h3⟩⟩
/-- ContainsFunc over the code. -/
theorem anyS_calls (B n₀ : Nat) (v : Value) (l : List ByteArray) (A0 : Option Addr) (c0 : Nat) (C : List ByteArray) (W : World) (hr0 : Kd.C Kd.string W A0 C.length C) (hB : W.cell? ⟨B, 0, none⟩ = some v) (ho : W.ownsRow n₀ 9 1 v l.length (l.map Value.string)) (hl : l.length ≤ 100000) :
    Calls Try.prog 54 #[.slice A0 C.length c0, .func (.func 55) #[] #[.pointer (some ⟨B, 0, none⟩)]] W fun e w' => e = .returned (.bool (C.any (Lib.containsS l))) ∧ ∃ q, w' = W.drewN q := by
  rcases str_at hr0 with e | ⟨b, off, e, hc⟩
  · subst e
    refine (Try.slices_ContainsFunc_empty_f54 (α := ByteArray) A0 c0 (.func (.func 55) #[] #[.pointer (some ⟨B, 0, none⟩)]) W).mono ?_
    rintro e w' ⟨rfl, rfl⟩
    exact ⟨rfl, 0, rfl⟩
  · subst e
    haveI : Inhabited ByteArray := ⟨ByteArray.empty⟩
    refine (Try.slices_ContainsFunc_f54 Value.string (Lib.containsS l) 55 #[.pointer (some ⟨B, 0, none⟩)] (enters_of Try.func55 (by kernel_rfl) rfl) b off C.length c0 C W (fun W' x hb => ?_) (Nat.le_refl _) hr0.2.1 (fun j hj => ?_)).mono ?_
    · show Calls Try.prog 55 #[.string x, .pointer (some ⟨B, 0, none⟩)] W' _
      refine (inE_calls B n₀ x v l W' ((hb.cell (World.block_lt_of_cell? W _ hB)).trans hB) (own_below ho hb) hl).mono ?_
      rintro e w' ⟨rfl, rfl⟩
      exact ⟨rfl, 0, rfl⟩
    · rw [hc j hj, getD_str C j hj, getElem!_pos C j hj]
    · rintro e w' ⟨rfl, q, rfl⟩
      rw [List.take_length]
      exact ⟨rfl, q, rfl⟩
theorem isSafe_bad (A0 : Option Addr) (c0 : Nat) (C : List ByteArray) (e0 : Int) (w : World) (hne : e0 ≠ 0)
    (hv : Calls Try.prog 32 #[.slice A0 C.length c0] w fun e w' => e = .returned (.int .i64 e0) ∧ Below w.heap.size w w') :
    Calls Try.prog 21 #[.slice A0 C.length c0] w fun e w' => e = .returned (.tuple #[.bool false, .int .i64 e0]) ∧ Below w.heap.size w w' := by
  have h1 : (e0 == 0) = false := by simpa using hne
  have h2 : (e0 != 0) = true := by simpa using hne
  clear hne
  go_enter Try.func21, Try.ntmps21
  go_wp2_with (first | (go_at_call 32; go_must (with_reducible refine hv.mono ?_); rintro e w' ⟨rfl, hb⟩))
  go_ret2
  exact ⟨rfl, hb⟩
set_option maxHeartbeats 2000000 in
theorem isSafe_ok (k : Nat) (A0 : Option Addr) (c0 : Nat) (C r : List ByteArray) (w : World) (hr0 : Kd.C Kd.string w A0 C.length C) (he : endsL k C = some r)
    (hv : Calls Try.prog 32 #[.slice A0 C.length c0] w fun e w' => e = .returned (.int .i64 0) ∧ Below w.heap.size w w') :
    Calls Try.prog 21 #[.slice A0 C.length c0] w fun e w' => e = .returned (.tuple #[.bool (!(C.any (Lib.containsS r))), .int .i64 0]) ∧ Below w.heap.size w w' := by
  have hl := endsL_len he
  have hcode := fun W (hB : Below w.heap.size w W) => Kd.C_below hr0 hB
  have Hcode := Lib.hid hcode
  have HE := Lib.hid he
  clear hcode hr0 he
  go_enter Try.func21, Try.ntmps21
  go_wp2_with (first | (go_at_call 32; go_must (with_reducible refine hv.mono ?_); rintro e w1 ⟨rfl, hb⟩; have hends := ends_given k A0 c0 C r w1 (Hcode.out w1 hb) HE.out) | (go_at_call 52; go_must (with_reducible refine hends.mono ?_); rintro e w2 ⟨v2, rfl, ho2, hb2⟩; obtain ⟨A2, cc2, rfl⟩ : ∃ A2 cc2, v2 = .slice A2 r.length cc2 := (by rcases ho2.2 with ⟨e1, e2⟩ | ⟨g, cap, cur, e1, _⟩; exact ⟨none, 0, by rw [e1, e2]⟩; exact ⟨_, _, e1⟩); have hB2 := hb.trans (hb2.mono hb.size); have hany := anyS_calls w2.heap.size w1.heap.size _ r A0 c0 C _ (Hcode.out _ (hB2.alloc hB2.size (.cells #[.slice A2 r.length cc2] 22))) (Boxed.new w2 22 _).cell (ho2.alloc _) hl) | (go_at_call 54; go_must (with_reducible refine hany.mono ?_); rintro e w3 ⟨rfl, q, rfl⟩))
  go_ret2
  exact ⟨rfl, pw_below_drewN (hB2.alloc hB2.size _) q⟩
end Go.Proofs.Ytpkafcoflgbnaaa.Q
