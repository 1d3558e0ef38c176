/- Alike, part 4. For all codes. -/
import Derived.Test.YtpkafcoflgbnaaaWLast
import Derived.Test.YtpkafcoflgbnaaaWMore
import Derived.Test.YtpkafcoflgbnaaaProg
import Derived.Test.YtpkafcoflgbnaaaShelf
import Derived.OwnWalk
import Derived.Handy
import Derived.Deep.DeepMust
import Derived.Lib.Hide
import Derived.Outline
import Derived.IntWalk
import Derived.Deep.RegionWith
import Derived.RangeFuncBox
import Derived.RangeFuncNested
import Derived.Maps.Own
import Derived.Maps.AppendAt
import Derived.Maps.Views
import Derived.StringKeys
import Derived.Laws.EntriesVeiled
import Derived.Lib.OwnBridge
import Derived.Deep.DeepCutAuto
import Derived.Deep.RegionHeld3
import Derived.StillTailTactics
import Derived.Deep.QuietTactic
import Derived.BigQuiet
import Derived.Test.YtpkafcoflgbnaaaWhR3
namespace Go.Proofs.Ytpkafcoflgbnaaa.Q
open Go.RowKit Go.Proofs.YtpkafcoflgbnaaaW.PrintWords Go.Proofs.YtpkafcoflgbnaaaW.PrintLast Go.Proofs.YtpkafcoflgbnaaaW.PrintMore Go.Shelf Go.Maps
set_option linter.unusedVariables false
set_option linter.unusedSimpArgs false
/-! Alike: the walk. -/
theorem alike_bad (A0 : Option Addr) (n c0 : Nat) (e0 : Int) (w : World) (hne : e0 ≠ 0)
    (hv : AtLater w (RetI 32 #[.slice A0 n c0] e0)) :
    Calls Try.prog 38 #[.slice A0 n c0] w fun e w' => e = .returned (.tuple #[.slice none 0 0, .slice none 0 0, .bool false, .int .i64 e0]) ∧ Below w.heap.size w w' := by
  have h1 : (e0 == 0) = false := by simpa using hne
  have h2 : (e0 != 0) = true := by simpa using hne
  clear hne
  have hb0 : Below w.heap.size w (((w.alloc (.cells #[.slice A0 n c0] 22)).alloc (.cells #[.slice none 0 0] 35)).alloc (.cells #[.slice none 0 0] 35)) := (((Below.refl _ _).alloc (Nat.le_refl _) _).alloc (by simp) _).alloc (by simp; omega) _
  have hv1 := hv _ hb0
  have hc : (((w.alloc (.cells #[.slice A0 n c0] 22)).alloc (.cells #[.slice none 0 0] 35)).alloc (.cells #[.slice none 0 0] 35)).cell? ⟨w.heap.size, 0, none⟩ = some (.slice A0 n c0) := (((Boxed.new w 22 _).alloc _).alloc _).cell
  have ha := ((Boxed.new (w.alloc (.cells #[.slice A0 n c0] 22)) 35 (.slice none 0 0)).alloc (.cells #[.slice none 0 0] 35))
  have hb := (Boxed.new ((w.alloc (.cells #[.slice A0 n c0] 22)).alloc (.cells #[.slice none 0 0] 35)) 35 (.slice none 0 0))
  simp only [World.size_alloc] at ha hb
  have HA := Lib.hid ha
  have HB := Lib.hid hb
  have HB0 := Lib.hid hb0
  clear hv ha hb hb0
  unfold RetI at hv1
  go_enter Try.func38, Try.ntmps38
  go_wp2_with (first | (go_at_call 32; go_must (with_reducible refine hv1.mono ?_); rintro e w1 ⟨rfl, hb1⟩; have ha1 := (KeepT.below hb1).boxed HA.out (by decide) (by decide); have hbb1 := (KeepT.below hb1).boxed HB.out (by decide) (by decide); have c1 := ha1.cell; have c2 := ha1.frozen; have c3 := hbb1.cell; have c4 := hbb1.frozen))
  refine bodyPost_ret (by simp [results, Try.results38, go_sem, *]; try rfl) rfl ?_
  exact ⟨rfl, ((HB0.out.trans (hb1.mono HB0.out.size)).setCell (p := ⟨w.heap.size + 1, 0, none⟩) (by simp) _).setCell (p := ⟨w.heap.size + 1 + 1, 0, none⟩) (by simp; omega) _⟩
/-- Two lists of one number each, just made. -/
theorem sigs_new (W : World) (base i k : Nat) (hb : base ≤ W.heap.size) :
    SigAt ((W.alloc (.cells #[.int .i64 (i : Int)] 3)).alloc (.cells #[.int .i64 (k : Int)] 3)) base (.slice (some ⟨W.heap.size, 0, none⟩) 1 1) [i] ∧ SigAt ((W.alloc (.cells #[.int .i64 (i : Int)] 3)).alloc (.cells #[.int .i64 (k : Int)] 3)) base (.slice (some ⟨W.heap.size + 1, 0, none⟩) 1 1) [k] := by
  refine ⟨sig_new W base i hb _, ?_⟩
  have h3 := heap_alloc_new (W.alloc (.cells #[.int .i64 (i : Int)] 3)) (.cells #[.int .i64 (k : Int)] 3)
  rw [World.size_alloc] at h3
  refine ⟨W.heap.size + 1, 1, _, rfl, by omega, h3, fun j u hu => ?_, Nat.le_refl _, by unfold maxLen; omega, rfl, rfl⟩
  rw [cell_of_row _ _ j _ _ _ h3]
  simpa [numsV] using hu
def addFun (m : Nat) : Value := .func (.func 78) #[] #[.pointer (some ⟨m + 1 + 1, 0, none⟩), .pointer (some ⟨m, 0, none⟩)]
def startW (w1 : World) : World := (((w1.alloc (.cells #[.slice none 0 0] 82)).alloc (.map #[] 0)).alloc (.cells #[.map (some (w1.heap.size + 1))] 83)).alloc (.cells #[.func (.func 78) #[] #[.pointer (some ⟨w1.heap.size + 1 + 1, 0, none⟩), .pointer (some ⟨w1.heap.size, 0, none⟩)]] 86)
theorem startW_below (w1 : World) : Below w1.heap.size w1 (startW w1) := ((((Below.refl _ _).alloc (Nat.le_refl _) _).alloc (by simp <;> omega) _).alloc (by simp <;> omega) _).alloc (by simp <;> omega) _
theorem start_st (w1 : World) (base pb : Nat) : ASt (startW w1) w1.heap.size (w1.heap.size + 1 + 1) (w1.heap.size + 1) base pb [] ∧ Boxed (startW w1) (w1.heap.size + 1 + 1 + 1) 86 (addFun w1.heap.size) := by
  have h1 : Boxed (startW w1) w1.heap.size 82 (.slice none 0 0) := (((Boxed.new w1 82 (.slice none 0 0)).alloc _).alloc _).alloc _
  have h2 := SeenAt.new (w1.alloc (.cells #[.slice none 0 0] 82))
  rw [World.size_alloc] at h2
  have h3 := Boxed.new ((w1.alloc (.cells #[.slice none 0 0] 82)).alloc (.map #[] 0)) 83 (.map (some (w1.heap.size + 1)))
  rw [World.size_alloc, World.size_alloc] at h3
  have h4 := Boxed.new (((w1.alloc (.cells #[.slice none 0 0] 82)).alloc (.map #[] 0)).alloc (.cells #[.map (some (w1.heap.size + 1))] 83)) 86 (.func (.func 78) #[] #[.pointer (some ⟨w1.heap.size + 1 + 1, 0, none⟩), .pointer (some ⟨w1.heap.size, 0, none⟩)])
  rw [World.size_alloc, World.size_alloc, World.size_alloc] at h4
  refine ⟨⟨[], ⟨h3.alloc _, ?_, .slice none 0 0, h1, World.ownsRow_nil _ _ _ _, by simp [Value.ownBlock]⟩, rfl, fun i hi => by simp at hi⟩, h4⟩
  refine h2.keep ?_
  have a1 := Below.heap_alloc ((w1.alloc (.cells #[.slice none 0 0] 82)).alloc (.map #[] 0)) (.cells #[.map (some (w1.heap.size + 1))] 83) (w1.heap.size + 1) (by simp)
  have a2 := Below.heap_alloc (((w1.alloc (.cells #[.slice none 0 0] 82)).alloc (.map #[] 0)).alloc (.cells #[.map (some (w1.heap.size + 1))] 83)) (.cells #[.func (.func 78) #[] #[.pointer (some ⟨w1.heap.size + 1 + 1, 0, none⟩), .pointer (some ⟨w1.heap.size, 0, none⟩)]] 86) (w1.heap.size + 1) (by simp)
  exact a2.trans a1
theorem startI_rest {C : List ByteArray} (hsz : ∀ j, (sig C j).size ≤ 1000) (i : Nat) : ∀ (n : Nat) (qs : List PQ), RestOk qs → RestOk (startI C i n qs)
  | 0, _, h => h
  | n + 1, qs, h => by
    have h1 := startI_rest hsz i n qs h
    unfold startI
    split
    · exact h1.add (Nat.le_trans (restB_le _ _) (hsz n))
    · exact h1
theorem startO_rest {C : List ByteArray} (hsz : ∀ j, (sig C j).size ≤ 1000) : ∀ i, RestOk (startO C i)
  | 0 => fun q hq => by cases hq
  | i + 1 => startI_rest hsz i C.length _ (startO_rest hsz i)
/-- What Alike hands back. -/
def AlikePost (w : World) (res : Option (List Nat × List Nat)) (e : Ending) (w' : World) : Prop :=
  ∃ va vb, e = .returned (.tuple #[va, vb, .bool res.isSome, .int .i64 0]) ∧ Below w.heap.size w w' ∧ (match res with
    | none => va = .slice none 0 0 ∧ vb = .slice none 0 0
    | some r => w'.ownsRow w.heap.size 3 1 va r.1.length (numsV r.1) ∧ w'.ownsRow w.heap.size 3 1 vb r.2.length (numsV r.2) ∧ va.ownBlock ≠ vb.ownBlock)
theorem alike_end {w w9 w10 : World} {aB bB b1 n1 c1 g gm gc : Nat} {u1 u2 : Value} {r : List Nat × List Nat} (hab : w.heap.size ≤ aB) (hbb : w.heap.size ≤ bB) (hne : aB ≠ bB) (hb9 : Below w.heap.size w w9) (hs1 : SigAt w9 w.heap.size (.slice (some ⟨b1, 0, none⟩) n1 c1) r.1) (hb10 : Below w9.heap.size w9 w10)
    (ho : w10.ownsRow w9.heap.size 3 1 (.slice (some ⟨g, 0, none⟩) gm gc) r.2.length (numsV r.2)) (x1 : Boxed w10 aB 35 u1) (x2 : Boxed w10 bB 35 u2) :
    AlikePost w (some r) (.returned (.tuple #[.slice (some ⟨b1, 0, none⟩) n1 c1, .slice (some ⟨g, 0, none⟩) gm gc, .bool true, .int .i64 0])) ((w10.setCell ⟨aB, 0, none⟩ (.slice (some ⟨b1, 0, none⟩) n1 c1)).setCell ⟨bB, 0, none⟩ (.slice (some ⟨g, 0, none⟩) gm gc)) := by
  have x2' := x2.other (fun e => hne e.symm) (.slice (some ⟨b1, 0, none⟩) n1 c1)
  have ho1 := ho.kept (grownBy_setCell' w10 aB (.slice (some ⟨b1, 0, none⟩) n1 c1)) (.inr (x1.not_row (by decide) ho).symm)
  have ho2 := ho1.kept (grownBy_setCell' _ bB (.slice (some ⟨g, 0, none⟩) gm gc)) (.inr (x2'.not_row (by decide) ho1).symm)
  have hs9 := hb9.size
  have hlt : b1 < w9.heap.size := by
    obtain ⟨b, c, cur, e, -, hh, -⟩ := hs1
    cases e
    exact (Array.getElem?_eq_some_iff.1 hh).1
  have hg := (ho.lt g rfl).1
  refine ⟨_, _, rfl, ((hb9.trans (hb10.mono hs9)).setCell (p := ⟨aB, 0, none⟩) hab _).setCell (p := ⟨bB, 0, none⟩) hbb _, (((hs1.below hb10).setBox x1 (by decide)).setBox x2' (by decide)).owns, owns_base2 ho2 hs9, ?_⟩
  intro e
  have e : b1 = g := Option.some.inj e
  omega
set_option maxHeartbeats 8000000 in
set_option maxRecDepth 100000 in
theorem alk_ok (k : Nat) (A0 : Option Addr) (c0 : Nat) (C : List ByteArray) (res : Option (List Nat × List Nat)) (w : World) (hr0 : Kd.C Kd.string w A0 C.length C) (hv : AtLater w (RetI 32 #[.slice A0 C.length c0] 0)) (hC : C.length ≤ 60) (hsz : ∀ j, (sig C j).size ≤ 1000)
    (hf : followF C k 0 (startO C C.length) = some res) : Calls Try.prog 38 #[.slice A0 C.length c0] w (AlikePost w res) := by
  have hb0 : Below w.heap.size w (((w.alloc (.cells #[.slice A0 C.length c0] 22)).alloc (.cells #[.slice none 0 0] 35)).alloc (.cells #[.slice none 0 0] 35)) := (((Below.refl _ _).alloc (Nat.le_refl _) _).alloc (by simp) _).alloc (by simp; omega) _
  have hv1 := hv _ hb0
  have hcode := fun W hB j hj => @code_at w W A0 C hr0 hB j hj
  have hmm := @run_makeMap Try.prog
  have hcb : Boxed (((w.alloc (.cells #[.slice A0 C.length c0] 22)).alloc (.cells #[.slice none 0 0] 35)).alloc (.cells #[.slice none 0 0] 35)) w.heap.size 22 (.slice A0 C.length c0) := ((Boxed.new w 22 _).alloc _).alloc _
  have hc := hcb.cell
  have ha := ((Boxed.new (w.alloc (.cells #[.slice A0 C.length c0] 22)) 35 (.slice none 0 0)).alloc (.cells #[.slice none 0 0] 35))
  have hb := (Boxed.new ((w.alloc (.cells #[.slice A0 C.length c0] 22)).alloc (.cells #[.slice none 0 0] 35)) 35 (.slice none 0 0))
  simp only [World.size_alloc] at ha hb
  have HCB := Lib.hid hcb
  have HA := Lib.hid ha
  have HB := Lib.hid hb
  have HB0 := Lib.hid hb0
  have HCO := Lib.hid hcode
  have HF := Lib.hid hf
  have HSZ := Lib.hid hsz
  clear hv ha hb hb0 hcb hcode hr0 hf hsz
  unfold RetI at hv1
  go_enter Try.func38, Try.ntmps38
  go_wp2_with (first | (go_at_call 32; go_must (with_reducible refine hv1.mono ?_); rintro e w1 ⟨rfl, hb1⟩; have hcb1 := (KeepT.below hb1).boxed HCB.out (by decide) (by decide); have HA1 := Lib.hid ((KeepT.below hb1).boxed HA.out (by decide) (by decide)); have HBB1 := Lib.hid ((KeepT.below hb1).boxed HB.out (by decide) (by decide)); have hcc1 := hcb1.cell; have hcc4 := ((((hcb1.alloc (.cells #[.slice none 0 0] 82)).alloc (.map #[] 0)).alloc (.cells #[.map (some (w1.heap.size + 1))] 83)).alloc (.cells #[.func (.func 78) #[] #[.pointer (some ⟨w1.heap.size + 1 + 1, 0, none⟩), .pointer (some ⟨w1.heap.size, 0, none⟩)]] 86)).cell; have hB1 := HB0.out.trans (hb1.mono HB0.out.size)))
  have hst := start_st w1 w.heap.size w.heap.size
  have hsb := startW_below w1
  have hE0 : Env w (startW w1) A0 C.length c0 w1.heap.size (w1.heap.size + 1 + 1) w.heap.size (w.heap.size + 1) (w.heap.size + 1 + 1) (w1.heap.size + 1 + 1 + 1) 0 := ⟨hB1.trans (hsb.mono hB1.size), (KeepT.below hsb).boxed hcb1 (by decide) (by decide), (KeepT.below hsb).boxed HA1.out (by decide) (by decide), (KeepT.below hsb).boxed HBB1.out (by decide) (by decide), hst.2⟩
  have hmw : w.heap.size + 1 + 1 < w1.heap.size := HBB1.out.lt
  have hlt0 : w1.heap.size + 1 + 1 + 1 < (startW w1).heap.size := by unfold startW; simp
  have hs0 := hst.1
  clear hst hsb hcc4 hcc1 hcb1 hc hb1 hB1 hv1
  change Code.wp _ _ _ _ (startW w1)
  generalize startW w1 = W4 at *
  obtain ⟨m, hm⟩ : ∃ m, w1.heap.size = m := ⟨_, rfl⟩
  simp only [hm]
  rw [hm] at hE0 hmw hs0 hlt0
  have hbase : w.heap.size ≤ m := by omega
  go_loopw [26] (fun p wr => ∃ i : Nat, i ≤ C.length ∧ p = .int .i64 (i : Int) ∧ ASt wr m (m + 1 + 1) (m + 1) w.heap.size w.heap.size (startO C i) ∧ Env w wr A0 C.length c0 m (m + 1 + 1) w.heap.size (w.heap.size + 1) (w.heap.size + 1 + 1) (m + 1 + 1 + 1) 0 ∧ m + 1 + 1 + 1 < wr.heap.size) (fun p _ => C.length - (intOf p).toNat)
  case atStart => exact ⟨0, Nat.zero_le _, rfl, hs0, hE0, hlt0⟩
  case round =>
    clear hs0 hE0 hlt0
    obtain ⟨i, hi, rfl, hA, hE, hlt⟩ := hrel
    by_cases hil : i < C.length
    · have hdi : decide ((i : Int) < (C.length : Int)) = true := decide_eq_true (by omega)
      have hdi0 : decide (0 ≤ (i : Int)) = true := decide_eq_true (by omega)
      obtain ⟨ad, hAd, hci⟩ := HCO.out wr hE.below i hil
      subst hAd
      have hcc := hE.code.cell
      obtain ⟨si, hsi⟩ : ∃ s, sig C i = s := ⟨_, rfl⟩
      rw [show C.getD i ByteArray.empty = sig C i from rfl, hsi] at hci
      have HSI := Lib.hid hsi
      have HA2 := Lib.hid hA
      have HE2 := Lib.hid hE
      clear hsi hA hE
      go_wp2
      obtain ⟨wo, rfl⟩ : ∃ wo : World, wo = wr := ⟨_, rfl⟩
      go_loopw [33] (fun p wr => ∃ n : Nat, n ≤ C.length ∧ p = .int .i64 (n : Int) ∧ ASt wr m (m + 1 + 1) (m + 1) w.heap.size w.heap.size (startI C i n (startO C i)) ∧ Env w wr (some ad) C.length c0 m (m + 1 + 1) w.heap.size (w.heap.size + 1) (w.heap.size + 1 + 1) (m + 1 + 1 + 1) 0 ∧ m + 1 + 1 + 1 < wr.heap.size) (fun p _ => C.length - (intOf p).toNat)
      case atStart => exact ⟨0, Nat.zero_le _, rfl, HA2.out, HE2.out, hlt⟩
      case round =>
        clear hci hcc hlt
        obtain ⟨n, hn, rfl, hA, hE, hlt⟩ := hrel
        by_cases hnl : n < C.length
        · have hdn : decide ((n : Int) < (C.length : Int)) = true := decide_eq_true (by omega)
          have hdn0 : decide (0 ≤ (n : Int)) = true := decide_eq_true (by omega)
          obtain ⟨ad2, hAd2, hcn⟩ := HCO.out wr hE.below n hnl
          cases hAd2
          obtain ⟨sn, hsn⟩ : ∃ s, sig C n = s := ⟨_, rfl⟩
          rw [show C.getD n ByteArray.empty = sig C n from rfl, hsn] at hcn
          have hssn : sn.size ≤ 1000 := by rw [← hsn]; exact HSZ.out n
          have HSN := Lib.hid hsn
          have hcut := fun W => cut_calls sn si W
          have hqs : (startI C i n (startO C i)).length ≤ 10000 := by
            have x1 := startI_le C i n (startO C i)
            have x2 := startO_le C i
            have x3 : i * C.length ≤ 60 * 60 := Nat.mul_le_mul (by omega) hC
            omega
          have HA3 := Lib.hid hA
          have HE3 := Lib.hid hE
          have hadc := hE.add.cell
          clear hA hE hsn
          by_cases h1 : headB sn si = true
          · by_cases h2 : i = n
            · subst h2
              have H1 := Lib.hid h1
              rw [h1] at hcut
              have hnn : ((i : Int) != (i : Int)) = false := by simp
              clear h1
              go_wp2_with (first | (go_at_call 79; (with_reducible refine (hcut _).mono ?_); rintro _ _ ⟨rfl, rfl⟩))
              go_roundw
              case rel =>
                refine ⟨i + 1, by omega, by simp, ?_, HE3.out, hlt⟩
                unfold startI
                rw [if_neg (by simp)]
                exact HA3.out
              case measure => simp [intOf]; omega
            · have H1 := Lib.hid h1
              rw [h1] at hcut
              have hnn : ((i : Int) != (n : Int)) = true := by simp; omega
              have hdd : decide ((i : Int) = (n : Int)) = false := decide_eq_false (by omega)
              have hwl := HE3.out.below.size
              have hW2 : Below wr.heap.size wr ((wr.alloc (.cells #[.int .i64 (i : Int)] 3)).alloc (.cells #[.int .i64 (n : Int)] 3)) := ((Below.refl _ _).alloc (Nat.le_refl _) _).alloc (by simp) _
              obtain ⟨g1, g2⟩ := sigs_new wr w.heap.size i n hwl
              have hadd := addst_calls m (m + 1 + 1) (m + 1) w.heap.size w.heap.size (startI C i n (startO C i)) wr.heap.size 1 1 (wr.heap.size + 1) 1 1 [i] [n] (restB sn si) _ (HA3.out.later hW2) (by simp; omega) hbase (by omega) hqs (Nat.le_trans (restB_le _ _) hssn) g1 g2
              have hE4 := HE3.out.keep (KeepT.below hW2) (hW2.mono hwl)
              have hadc2 := hE4.add.cell
              have HE4 := Lib.hid hE4
              have HG := Lib.hid (And.intro g1 g2)
              have hsz4 := hW2.size
              clear h1 hE4 g1 g2 hW2
              go_wp2_with (first | (go_at_call 79; (with_reducible refine (hcut _).mono ?_); rintro _ _ ⟨rfl, rfl⟩) | (go_at_call 78; go_must (with_reducible refine hadd.mono ?_); rintro _ w5 ⟨rfl, hA5, hK5, hB5, hq5⟩))
              go_roundw
              case rel =>
                refine ⟨n + 1, by omega, by simp, ?_, HE4.out.keep hK5 hB5, by have := hB5.size; simp at this; omega⟩
                unfold startI
                rw [if_pos (by rw [HSN.out, HSI.out, H1.out]; simpa using h2), HSN.out, HSI.out]
                exact hA5
              case measure => simp [intOf]; omega
          · have H1 := Lib.hid (Bool.eq_false_iff.2 h1)
            rw [Bool.eq_false_iff.2 h1] at hcut
            clear h1
            go_wp2_with (first | (go_at_call 79; (with_reducible refine (hcut _).mono ?_); rintro _ _ ⟨rfl, rfl⟩))
            go_roundw
            case rel =>
              refine ⟨n + 1, by omega, by simp, ?_, HE3.out, hlt⟩
              unfold startI
              rw [if_neg (by rw [HSN.out, HSI.out, H1.out]; simp)]
              exact HA3.out
            case measure => simp [intOf]; omega
        · obtain rfl : n = C.length := by omega
          have hdn : decide ((C.length : Int) < (C.length : Int)) = false := decide_eq_false (by omega)
          have HA3 := Lib.hid hA
          have HE3 := Lib.hid hE
          clear hA hE
          go_wp2
          go_roundw
          case rel => exact ⟨i + 1, by omega, by simp, HA3.out, HE3.out, hlt⟩
          case measure => simp [intOf]; omega
    · obtain rfl : i = C.length := by omega
      have hdi : decide ((C.length : Int) < (C.length : Int)) = false := decide_eq_false (by omega)
      have HA3 := Lib.hid hA
      have HE3 := Lib.hid hE
      clear hA hE
      have hW8 : Below wr.heap.size wr (wr.alloc (.cells #[folFun m w.heap.size (w.heap.size + 1) (w.heap.size + 1 + 1) (m + 1 + 1 + 1) wr.heap.size] 89)) := (Below.refl _ _).alloc (Nat.le_refl _) _
      have hwl := HE3.out.below.size
      have hE8 := HE3.out.keep (KeepT.below hW8) (hW8.mono hwl)
      have hfol := follow_calls w A0 c0 m (m + 1 + 1) (m + 1) w.heap.size (w.heap.size + 1) (w.heap.size + 1 + 1) (m + 1 + 1 + 1) wr.heap.size C hbase (by omega) (by omega) (by omega) (by omega) (by omega) HCO.out HSZ.out res k 0 (startO C C.length) _ w.heap.size ⟨hE8.below, hE8.code, hE8.ab, hE8.bb, hE8.add⟩ (Boxed.new wr 89 _) (HA3.out.later hW8) (startO_rest HSZ.out _) HF.out
      have hz : ((0 : Nat) : Int) = 0 := rfl
      rw [hz] at hfol
      unfold folArgs folFun at hfol
      clear hW8 hE8 hz
      cases res with
      | none =>
        go_wp2_with (first | (go_at_call 80; go_must (with_reducible refine hfol.mono ?_); rintro _ w9 ⟨rfl, hb9, he1, he2⟩; have c1 := he1.cell; have c2 := he1.frozen; have c3 := he2.cell; have c4 := he2.frozen))
        have HE1 := Lib.hid he1
        have HE2 := Lib.hid he2
        have HB9 := Lib.hid hb9
        clear he1 he2 hb9 hfol
        go_region_with (first | (go_at_call 81; (with_reducible refine (Try.slices_Clone_int_nil 0 0 _).mono ?_); rintro _ _ ⟨rfl, rfl⟩))
        all_goals go_wp2
        all_goals (refine bodyPost_ret (by simp [results, Try.results38, go_sem, *]; try rfl) rfl ?_)
        all_goals exact ⟨_, _, rfl, ((HB9.out.setCell (p := ⟨w.heap.size + 1, 0, none⟩) (by simp) _).setCell (p := ⟨w.heap.size + 1 + 1, 0, none⟩) (by simp; omega) _).drew, rfl, rfl⟩
      | some r =>
        have hlen := (followF_len C k 0 _ r HF.out).2
        go_wp2_with (first | (go_at_call 80; go_must (with_reducible refine hfol.mono ?_); rintro _ w9 ⟨rfl, hb9, b1, n1, c1, b2, n2, c2, he1, he2, s1, s2⟩; have d1 := he1.cell; have d2 := he1.frozen; have d3 := he2.cell; have d4 := he2.frozen))
        have HE1 := Lib.hid he1
        have HE2 := Lib.hid he2
        have HB9 := Lib.hid hb9
        have HS1 := Lib.hid s1
        have hcl9 := clone_calls2 w9.drew w.heap.size r.2 b2 n2 c2 (show SigAt w9.drew w.heap.size (.slice (some ⟨b2, 0, none⟩) n2 c2) r.2 from s2) (by omega)
        have HS2 := Lib.hid s2
        clear he1 he2 hb9 hfol s1 s2
        go_region_with (first | (go_at_call 81; (with_reducible refine hcl9.mono ?_); rintro _ w10 ⟨g, gm, gc, rfl, ho10, hb10⟩; have x1 := (KeepT.below (show Below w9.heap.size w9 w10 from ⟨hb10.os, hb10.tape, hb10.output, hb10.size, hb10.block⟩)).boxed HE1.out (by decide) (by decide); have x2 := (KeepT.below (show Below w9.heap.size w9 w10 from ⟨hb10.os, hb10.tape, hb10.output, hb10.size, hb10.block⟩)).boxed HE2.out (by decide) (by decide); have f1 := x1.cell; have f2 := x1.frozen; have f3 := x2.cell; have f4 := x2.frozen; have X1 := Lib.hid x1; have X2 := Lib.hid x2; have HO := Lib.hid ho10; have HB10 := Lib.hid (show Below w9.heap.size w9 w10 from ⟨hb10.os, hb10.tape, hb10.output, hb10.size, hb10.block⟩); clear ho10 hb10 x1 x2))
        all_goals go_wp2
        all_goals (refine bodyPost_ret (by simp [results, Try.results38, go_sem, *]; try rfl) rfl ?_)
        all_goals exact alike_end (by omega) (by omega) (by omega) HB9.out HS1.out HB10.out HO.out X1.out X2.out
end Go.Proofs.Ytpkafcoflgbnaaa.Q
