import Derived.Test.YtpkafcoflgbnaaaQx30
import Derived.Test.YtpkafcoflgbnaaaQx32
import Derived.Test.YtpkafcoflgbnaaaZCheapest
namespace Go.Proofs.Ytpkafcoflgbnaaa.Pure
open Go.RowKit Go.Proofs.Ytpkafcoflgbnaaa.Q Go.Proofs.YtpkafcoflgbnaaaW.PrintWords Go.Proofs.YtpkafcoflgbnaaaW.PrintLast
set_option linter.unusedVariables false

/-! WhistleCheapest, plainly. -/

theorem WhistleCheapest : wigeonlaw05_WhistleCheapest.Pure := by
  intro l0 hm hx hw
  refine Ev.rounds ?_
  unfold wigeonlaw05_WhistleCheapest.f
  by_cases h60 : (l0.length : Int) > 60
  · exact Ev.ifp h60 (known_bind rfl)
  refine Ev.ifn h60 ?_
  by_cases hok : wOk l0 = true
  · have h := wOk_iff hok
    have hl : Ev (fun k => wigeonref05_Least.f k l0) (cheapC l0, 0) := by
      by_cases h1 : l0.length = 1
      · rw [cheap_cost1 h1]
        exact least_one hok h1
      · have h2 : 2 ≤ l0.length := by have := h.pos; omega
        obtain ⟨s, g1, g2⟩ := least_ev h hok h2
        obtain ⟨s', g3, g4⟩ := cheap_cost h h2
        rw [g4, Huf.huff_det g3 g1 (List.Perm.refl _)]
        exact g2
    refine Ev.bind (cheap_ev hok) (Ev.bind hl (Ev.ifp rfl (Ev.step (fun k => by rw [wigeonlaw05_WhistleCheapest.j0]) (Ev.ifn (by simp) (Ev.ifp rfl ?_)))))
    obtain ⟨c1, c2, c3⟩ := cheapL_ok h
    have hlen : lenB (natL (cheapL l0)) = true := lenB_iff.2 ⟨by rw [natL_len, c1]; exact h.pos, by rw [natL_len, c1]; exact h.le, fun x hx => by
      unfold natL at hx
      obtain ⟨y, hy, rfl⟩ := List.mem_map.1 hx
      have := c2 y hy
      omega⟩
    have hfrom : fromP (natL (cheapL l0)) = (canonP (natL (cheapL l0)), 0) := by unfold fromP; rw [if_pos hlen, if_pos c3]
    have hr := rfrom_ev (natL (cheapL l0))
    rw [hfrom] at hr
    obtain ⟨h0, hlo⟩ := lenB_iff.1 hlen
    have v := canonP_valid hlo h0 c3
    have hS : Sized (canonP (natL (cheapL l0))) := fun s hs => Nat.le_trans (v.size12 s hs) (by decide)
    have hc := rcost_ev l0 hS
    have he : costV l0 (canonP (natL (cheapL l0))) = (cheapC l0, 0) := by
      rw [costV_pay (valP_zero.2 v), if_pos ⟨hok, by rw [canonP_len, natL_len, c1]⟩, canonP_lens hlo]; rfl
    rw [he] at hc
    exact Ev.bind hr (Ev.bind hc (Ev.ifp rfl (Ev.ifp rfl (Ev.ifp rfl (known_bind rfl)))))
  · have hok := Bool.eq_false_iff.2 hok
    refine Ev.bind (cheap_none hok) (Ev.bind (least_bad hok) (Ev.ifp rfl ?_))
    show Ev (fun k => wigeonlaw05_WhistleCheapest.j0 k l0 [] 0 1 false) true
    refine Ev.step (fun k => by rw [wigeonlaw05_WhistleCheapest.j0]) ?_
    exact Ev.ifn (by decide) (Ev.ifn (by decide) (Ev.ifp rfl (known_bind rfl)))
end Go.Proofs.Ytpkafcoflgbnaaa.Pure
