/- Parts of the proof of canonSpoilt_holds, kept and merged by a program of mine (wip/tools/slim.py) out of my texts: ParsW -/
import Derived.Lib.Hide
import Derived.WalkKit
import Derived.Deep.RegionHeld3
import Derived.Test.YtlhhhlimjajnlaaGreatSSp32
import Derived.Test.YtlhhhlimjajnlaaGreatSSp34
import Derived.Test.YtlhhhlimjajnlaaGreatSSp35
import Derived.Test.YtlhhhlimjajnlaaGreatSSp24
import Derived.Test.YtlhhhlimjajnlaaGreatSSp25
import Derived.Test.YtlhhhlimjajnlaaGreatSSp38
section
set_option linter.unusedVariables false
set_option linter.unusedSimpArgs false
namespace Go.Proofs.YtlhhhlimjajnlaaGreat.X
open Go.RowKit Go.Maps Go.Proofs.YtlhhhlimjajnlaaGreat Go.Proofs.YtlhhhlimjajnlaaGreat.Q Go.Proofs.YtlhhhlimjajnlaaGreat.P11 Go.Proofs.YtlhhhlimjajnlaaGreat.P14 Go.Proofs.YtlhhhlimjajnlaaGreat.P12 Go.Proofs.YtlhhhlimjajnlaaGreat.R13 Go.Proofs.YtlhhhlimjajnlaaGreat.Ck Go.Proofs.YtlhhhlimjajnlaaGreatW.PrintWords Go.Proofs.YtlhhhlimjajnlaaGreatW.PrintLast Go.Proofs.YtlhhhlimjajnlaaGreatW.PrintMore
attribute [local go_sem] max2_int min2_int max_two min_two   
theorem cut_f (s : ByteArray) (n : Nat) : ∃ t : ByteArray, L4_short.f s n = some t ∧ t.size ≤ n := by
 unfold L4_short.f
 by_cases h : (s.size : Int) > n
 ·rw [if_pos h, if_pos (by omega), if_pos (by omega)]
  exact ⟨_, rfl, by rw [ByteArray.size_extract]; omega⟩
 ·rw [if_neg h]; exact ⟨_, rfl, by omega⟩
theorem mem_sumS : ∀ (l : List ByteArray) (s : ByteArray), s ∈ l → s.size ≤ sumS l
 | a :: l, s, h => by
  show s.size ≤ 2 * a.size + sumS l
  rcases List.mem_cons.1 h with rfl | h
  ·omega
  ·have := mem_sumS l s h; omega
theorem mem_sumN : ∀ (l : List Nod) (x : Nod), x ∈ l → x.f3.size ≤ sumN l
 | a :: l, s, h => by
  show s.f3.size ≤ 6 * a.f3.size + 8 + sumN l
  rcases List.mem_cons.1 h with rfl | h
  ·omega
  ·have := mem_sumN l s h; omega
theorem parsed_sizes (d : ByteArray) (h : (parseV d).2 = 0) : (∀ x, x ∈ (parseV d).1.1 → x.size ≤ 14 * d.size) ∧ ∀ x, x ∈ (parseV d).1.2 → x.f3.size ≤ 14 * d.size := by
 have hl : (lexV d).2 = 0 := by
  by_cases c : (lexV d).2 = 0
  ·exact c
  ·unfold parseV at h; rw [if_neg c] at h; exact absurd h c
 obtain ⟨p, e, hF, ho, h0, h5, h6, hp, he⟩ := parse_fit d h
 rw [hp]
 have h1 := seg_cost _ _ _ _ _ _ (lexV_seg d hl) (lexV_cost d)
 have h2 := phi_run (lexV d).1 psZero
 have h3 := phi_flush ((lexV d).1.foldl X.stepT psZero)
 rw [← he] at h3
 have h4 : Phi psZero = 0 := rfl
 have h7 : sumS p.s + sumN p.n ≤ Phi p := by unfold Phi; omega
 refine ⟨fun x hx => ?_, fun x hx => ?_⟩
 ·obtain ⟨y, hy, rfl⟩ := List.mem_map.1 hx
  obtain ⟨c, hc, hcy⟩ := List.mem_filterMap.1 ((P13.mem_sorted _ _).1 hy)
  split at hcy
  ·cases hcy
  ·obtain rfl := Option.some.inj hcy
   have := mem_sumS p.s c.2 (List.of_mem_zip hc).2
   have e : (bytesL c.2.data.toList).size = c.2.size := by rw [Lib.size_eq, Lib.size_eq]; rfl
   omega
 ·obtain ⟨c, hc, rfl⟩ := List.mem_map.1 hx
  rw [(P14.numbered_f _ _ _).2.2]
  have := mem_sumN p.n c.1 (List.of_mem_zip hc).1
  omega
end Go.Proofs.YtlhhhlimjajnlaaGreat.X
end
