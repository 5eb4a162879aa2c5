/- What comes often in the texts of this claim: steps that close a goal, said once each (the default of an argument), by a program of mine (wip/tools/squeeze.py). -/
set_option linter.unusedVariables false
namespace Go.Proofs.YtlhhhlimjajnlaaGreat
theorem leT {p : Prop} (h : p := by
 repeat' first
 | (with_reducible first | apply ih0 | apply ih1 | apply ih2 | apply ih3 | apply ih4 | apply ih5 | apply ih6 | apply ih7 | apply ih8 | apply ih9 | apply mo0 | apply mo1 | apply mo2 | apply mo3 | apply mo4 | apply mo5 | exact LeO.refl _ | exact LeO.none _ | refine LeO.ite ?_ ?_ | refine LeO.bind ?_ (fun _ => ?_))
 | apply ih0 | apply ih1 | apply ih2 | apply ih3 | apply ih4 | apply ih5 | apply ih6 | apply ih7 | apply ih8 | apply ih9 | apply mo0 | apply mo1 | apply mo2 | apply mo3 | apply mo4 | apply mo5 | exact LeO.none _ | refine LeO.ite ?_ ?_ | refine LeO.bind ?_ (fun _ => ?_)) : p := h
theorem zz0 {p : Prop} (h : p := by repeat (first | (with_reducible first | exact HB.out | apply below_alloc | apply pw_below_drewN | apply below_drew1 | refine below_set ?_ GE413.out | refine below_set ?_ GE417.out) | exact HB.out)) : p := h
theorem zz1 {p : Prop} (h : p := by first | (with_reducible assumption) | assumption) : p := h
theorem zz2 {p : Prop} (h : p := by repeat (first | (with_reducible first | exact HB.out | apply below_alloc | apply pw_below_drewN | apply below_drew1) | exact HB.out)) : p := h
theorem zz3 {p : Prop} (h : p := by (with_reducible repeat (first | refine blk_drewN ?_ _ | refine blk_drew ?_ | refine blk_alloc ?_ _)); exact BK413.out) : p := h
theorem zz4 {p : Prop} (h : p := by repeat (first | (with_reducible first | exact HB.out | apply below_alloc | apply pw_below_drewN | apply below_drew1 | refine below_set ?_ GE413.out) | exact HB.out)) : p := h
theorem zz5 {p : Prop} (h : p := by repeat (first | exact Drawn0.refl _ | apply Drawn0.step)) : p := h
theorem zz6 {p : Prop} (h : p := by (with_reducible repeat (first | refine blk_drewN ?_ _ | refine blk_drew ?_ | refine blk_alloc ?_ _)); exact BK417.out) : p := h
theorem zz7 {p : Prop} (h : p := by first | rfl | (simp; done) | (simp [*]; done)) : p := h
theorem zz8 {p : Prop} (h : p := by repeat (with_reducible first | exact Below.refl _ _ | apply below_alloc | apply pw_below_drewN | apply below_drew)) : p := h
theorem zz9 {p : Prop} (h : p := by repeat (first | (with_reducible first | exact HB.out | apply below_alloc | apply pw_below_drewN | apply below_drew1 | refine below_set ?_ GE386.out | refine below_set ?_ GE387.out | refine below_set ?_ GE388.out) | exact HB.out)) : p := h
theorem zz10 {p : Prop} (h : p := by repeat ((with_reducible exact HB.out))) : p := h
theorem zz11 {p : Prop} (h : p := by first | rfl | (simp [errW_none, errW_some] <;> rfl) | (simp [*, errW_none, errW_some] <;> rfl)) : p := h
theorem zz12 {p : Prop} (h : p := by (simp only [List.map_toArray, List.map_cons, List.map_nil]); rfl) : p := h
theorem zz13 {p : Prop} (h : p := by (try simp only [List.map_toArray, List.map_cons, List.map_nil]); first | done | rfl | (simp only [List.length_drop, List.length_take]; rfl)) : p := h
theorem zz14 {p : Prop} (h : p := by repeat (((with_reducible first | exact HB.out | apply pw_below_drewN)))) : p := h
theorem zz15 {p : Prop} (h : p := by (with_reducible repeat (first | refine blk_drewN ?_ _ | refine blk_drew ?_ | refine blk_alloc ?_ _)); exact BK386.out) : p := h
theorem zz16 {p : Prop} (h : p := by (with_reducible repeat (first | refine blk_drewN ?_ _ | refine blk_drew ?_ | refine blk_alloc ?_ _)); refine blk_far ?_ NB413_417.out _; (with_reducible repeat (first | refine blk_drewN ?_ _ | refine blk_drew ?_ | refine blk_alloc ?_ _)); refine blk_far ?_ NB413_417.out _; (with_reducible repeat (first | refine blk_drewN ?_ _ | refine blk_drew ?_ | refine blk_alloc ?_ _)); refine blk_far ?_ NB413_417.out _; (with_reducible repeat (first | refine blk_drewN ?_ _ | refine blk_drew ?_ | refine blk_alloc ?_ _)); refine blk_far ?_ NB413_417.out _; (with_reducible repeat (first | refine blk_drewN ?_ _ | refine blk_drew ?_ | refine blk_alloc ?_ _)); exact BK413.out) : p := h
theorem zz17 {p : Prop} (h : p := by (with_reducible assumption)) : p := h
theorem zz18 {p : Prop} (h : p := by (with_reducible repeat (first | refine blk_drewN ?_ _ | refine blk_drew ?_ | refine blk_alloc ?_ _)); exact BK387.out) : p := h
theorem zz19 {p : Prop} (h : p := by first | exact H4.out | exact H4.out.drewN _ | exact H4.out.drew | exact (H4.out.drewN _).drew | exact (H4.out.drewN _).drew.drewN _ | exact H4.out.drew.drewN _ | exact (H4.out.drewN _).drewN _) : p := h
theorem zz20 {p : Prop} (h : p := by (with_reducible repeat (first | refine blk_drewN ?_ _ | refine blk_drew ?_ | refine blk_alloc ?_ _)); exact BK388.out) : p := h
theorem zz21 {p : Prop} (h : p := by (with_reducible repeat (first | refine blk_drewN ?_ _ | refine blk_drew ?_ | refine blk_alloc ?_ _)); refine blk_far ?_ NB400_402.out _; (with_reducible repeat (first | refine blk_drewN ?_ _ | refine blk_drew ?_ | refine blk_alloc ?_ _)); refine blk_far ?_ NB400_402.out _; (with_reducible repeat (first | refine blk_drewN ?_ _ | refine blk_drew ?_ | refine blk_alloc ?_ _)); refine blk_far ?_ NB400_402.out _; (with_reducible repeat (first | refine blk_drewN ?_ _ | refine blk_drew ?_ | refine blk_alloc ?_ _)); refine blk_far ?_ NB400_402.out _; (with_reducible repeat (first | refine blk_drewN ?_ _ | refine blk_drew ?_ | refine blk_alloc ?_ _)); exact BK400.out) : p := h
theorem zz22 {p : Prop} (h : p := by first | exact H.out.alloc _ | exact (H.out.alloc _).drewN _ | exact ((H.out.alloc _).drewN _).drewN _ | exact (((H.out.alloc _).drewN _).drewN _).drewN _) : p := h
theorem zz23 {p : Prop} (h : p := by first | exact H3.out | exact H3.out.drewN _ | exact (H3.out.drewN _).drewN _) : p := h
theorem zz24 {p : Prop} (h : p := by repeat (first | (with_reducible first | exact HB.out | apply below_alloc | apply pw_below_drewN | apply below_drew1 | refine below_set ?_ GE386.out | refine below_set ?_ GE387.out | refine below_set ?_ GE388.out | refine below_set ?_ GE395.out) | exact HB.out)) : p := h
theorem zz25 {p : Prop} (h : p := by have := HJ1.out; have := HK2.out; have := HJ25.out; have := HJ51.out; first | omega | exact Nat.le_refl _) : p := h
theorem zz26 {p : Prop} (h : p := by repeat (first | exact Below.refl _ _ | apply pw_below_drewN | apply below_drew | apply below_alloc)) : p := h
theorem zz27 {p : Prop} (h : p := by exact ⟨_, _, rfl, Kd.R_nil _ _ _ _ _, Kd.R_nil _ _ _ _ _, (H6.out.2.2.1.bel.setCell (p := ⟨w.heap.size + 1, 0, none⟩) (Nat.le_succ_of_le HW0.out) _).setCell (p := ⟨w.heap.size + 1, 1, none⟩) (Nat.le_succ_of_le HW0.out) _⟩) : p := h
theorem zz28 {p : Prop} (h : p := by rw [IntKind.wrap_i64]; omega) : p := h
theorem zz29 {p : Prop} (h : p := by have := HLS.out; omega) : p := h
theorem zz30 {p : Prop} (h : p := by have := HJ1.out; have := HK2.out; have := HJ25.out; have := HJ51.out; have := HJ64.out; have := HK6.out; omega) : p := h
theorem zz31 {p : Prop} (h : p := by (with_reducible repeat (first | apply Kd.R_alloc | apply Kd.R_drewN | apply Kd.R_drew)); exact HO_389000.out) : p := h
theorem zz32 {p : Prop} (h : p := by repeat (with_reducible first | exact Below.refl _ _ | apply below_alloc | apply below_drew)) : p := h
theorem zz33 {p : Prop} (h : p := by (with_reducible repeat (first | refine blk_drewN ?_ _ | refine blk_drew ?_ | refine blk_alloc ?_ _)); exact BK400.out) : p := h
theorem zz34 {p : Prop} (h : p := by exact ⟨by rfl, by repeat (exact Drawn0.refl _)⟩) : p := h
theorem zz35 {p : Prop} (h : p := by rw [hg]; exact (below_size (zz2))) : p := h
theorem zz36 {p : Prop} (h : p := by first | exact H3.out | exact H3.out.drewN _) : p := h
theorem zz37 {p : Prop} (h : p := by repeat (first | (with_reducible first | exact HB.out | apply below_alloc | apply pw_below_drewN | apply below_drew1 | refine below_set ?_ GE381.out) | exact HB.out)) : p := h
theorem zz38 {p : Prop} (h : p := by first | omega | exact Nat.le_refl _) : p := h
theorem zz39 {p : Prop} (h : p := by rw [hg]; exact Nat.ne_of_lt (blk_lt (g := gb413) (o := .cells #[.slice A0_0 l0_0.length c0_0, .slice (some ad416) l0_1.length c0_1] 27 (0, 0)) (zz3))) : p := h
theorem zz40 {p : Prop} (h : p := by rw [hg]; exact Nat.ne_of_gt (blk_lt (g := gb413) (o := .cells #[.slice A0_0 l0_0.length c0_0, .slice (some ad416) l0_1.length c0_1] 27 (0, 0)) (zz3))) : p := h
theorem zz41 {p : Prop} (h : p := by rw [hg]; exact (below_size (zz10))) : p := h
theorem zz42 {p : Prop} (h : p := by first | exact below_alloc (Below.refl _ _) _ | exact below_drew (below_alloc (Below.refl _ _) _)) : p := h
theorem zz43 {p : Prop} (h : p := by have hbn := blk_new (w.alloc (.cells #[.pointer (some ⟨g, 0, none⟩)] 46)) (.cells #[.slice none 0 0, .slice none 0 0] 27); simpa using hbn) : p := h
theorem zz44 {p : Prop} (h : p := by first | exact HB.out | exact below_drew HB.out) : p := h
theorem zz45 {p : Prop} (h : p := by first | exact blk_new _ _ | exact blk_drew (blk_new _ _) | exact blk_drewN (blk_new _ _) _) : p := h
theorem zz46 {p : Prop} (h : p := by have := HK1.out; omega) : p := h
theorem zz47 {p : Prop} (h : p := by (with_reducible repeat (first | refine blk_drewN ?_ _ | refine blk_drew ?_ | refine blk_alloc ?_ _)); refine blk_far ?_ NB386_388.out _; (with_reducible repeat (first | refine blk_drewN ?_ _ | refine blk_drew ?_ | refine blk_alloc ?_ _)); exact BK386.out) : p := h
theorem zz48 {p : Prop} (h : p := by (with_reducible repeat (first | refine blk_drewN ?_ _ | refine blk_drew ?_ | refine blk_alloc ?_ _)); refine blk_far ?_ NB387_388.out _; (with_reducible repeat (first | refine blk_drewN ?_ _ | refine blk_drew ?_ | refine blk_alloc ?_ _)); exact BK387.out) : p := h
end Go.Proofs.YtlhhhlimjajnlaaGreat
