import Derived.Test.YthihlapmkcelpaaDoorQx2
namespace Go.Proofs.YthihlapmkcelpaaDoor.Pure
open Go.RowKit Go.Proofs.YthihlapmkcelpaaDoor.Q Go.Proofs.YthihlapmkcelpaaDoorW.PrintWords Go.Proofs.YthihlapmkcelpaaDoorW.PrintLast

/-! Steps of a plain law, and the words that all laws of the layer share. -/
theorem Ev.ifp {α : Type} {c : Prop} [Decidable c] {f g : Nat → Option α} {r : α} (h : c) (k : Ev f r) : Ev (fun n => if c then f n else g n) r := by
  obtain ⟨K, k⟩ := k
  exact ⟨K, fun n hn => by show (if c then f n else g n) = some r; rw [if_pos h]; exact k n hn⟩
theorem Ev.ifn {α : Type} {c : Prop} [Decidable c] {f g : Nat → Option α} {r : α} (h : ¬ c) (k : Ev g r) : Ev (fun n => if c then f n else g n) r := by
  obtain ⟨K, k⟩ := k
  exact ⟨K, fun n hn => by show (if c then f n else g n) = some r; rw [if_neg h]; exact k n hn⟩
theorem Ev.bindc {α β : Type} {g : Option α} {f : Nat → α → Option β} {a : α} {r : β} (h : g = some a) (k : Ev (fun n => f n a) r) : Ev (fun n => g.bind (f n)) r := by
  subst h
  exact k
theorem Ev.val {α : Type} {a r : α} (h : a = r) : Ev (fun _ => some a) r := by
  subst h
  exact Ev.now _
theorem w64 {n : Int} (h0 : -9223372036854775808 ≤ n) (h1 : n < 9223372036854775808) : wrap64 n = n := by
  unfold wrap64
  omega
theorem known_bind : Ev (fun _ => (wigeonlaw03_known.f).bind fun t => some t) true := Ev.now _
theorem known_now : ((wigeonlaw03_known.f).bind fun t => (some t : Option Bool)) = some true := rfl
theorem rd_lt (l : List Int) (i : Nat) (h : i < l.length) : rd l (i : Int) = l[i] := by
  unfold rd
  rw [Int.toNat_natCast, List.getD_eq_getElem?_getD, List.getElem?_eq_getElem h]
  rfl
theorem bool_all {p : Bool → Prop} (h1 : p true) (h2 : p false) (b : Bool) : p b := by cases b <;> assumption

end Go.Proofs.YthihlapmkcelpaaDoor.Pure
