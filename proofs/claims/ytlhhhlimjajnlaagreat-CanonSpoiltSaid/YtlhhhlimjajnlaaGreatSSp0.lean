/- What comes often in the texts of this claim: steps that close a goal, said once each (the default of an argument), by a program of mine (wip/tools/squeeze.py). -/
set_option linter.unusedVariables false
namespace Go.Proofs.YtlhhhlimjajnlaaGreat
theorem zz0 {p : Prop} (h : p := by repeat (first | (with_reducible first | exact HB.out | apply below_alloc | apply pw_below_drewN | apply below_drew1) | exact HB.out)) : p := h
theorem zz1 {p : Prop} (h : p := by repeat (first | exact Drawn0.refl _ | apply Drawn0.step)) : p := h
theorem zz2 {p : Prop} (h : p := by repeat (with_reducible first | exact Below.refl _ _ | apply below_alloc | apply pw_below_drewN | apply below_drew)) : p := h
theorem zz3 {p : Prop} (h : p := by (simp only [List.map_toArray, List.map_cons, List.map_nil]); rfl) : p := h
theorem zz4 {p : Prop} (h : p := by (try simp only [List.map_toArray, List.map_cons, List.map_nil]); first | done | rfl | (simp only [List.length_drop, List.length_take]; rfl)) : p := h
theorem zz5 {p : Prop} (h : p := by first | rfl | (simp; done) | (simp [*]; done)) : p := h
theorem zz6 {p : Prop} (h : p := by repeat (((with_reducible first | exact HB.out | apply pw_below_drewN)))) : p := h
theorem zz7 {p : Prop} (h : p := by repeat ((with_reducible exact HB.out))) : p := h
theorem zz8 {p : Prop} (h : p := by first | rfl | (simp [errW_none, errW_some] <;> rfl) | (simp [*, errW_none, errW_some] <;> rfl)) : p := h
theorem zz9 {p : Prop} (h : p := by repeat (with_reducible first | exact Below.refl _ _ | apply pw_below_drewN | apply below_drew)) : p := h
theorem zz10 {p : Prop} (h : p := by first | (with_reducible assumption) | assumption) : p := h
theorem zz11 {p : Prop} (h : p := by first | exact H4.out | exact H4.out.drewN _ | exact H4.out.drew | exact (H4.out.drewN _).drew | exact (H4.out.drewN _).drew.drewN _ | exact H4.out.drew.drewN _ | exact (H4.out.drewN _).drewN _) : p := h
theorem zz12 {p : Prop} (h : p := by repeat (with_reducible first | exact HB7.out | apply pw_below_drewN | apply below_drew)) : p := h
theorem zz13 {p : Prop} (h : p := by (with_reducible assumption)) : p := h
theorem zz14 {p : Prop} (h : p := by exact ⟨rfl, by repeat (with_reducible first | exact below_step HB6.out HB8.out | apply pw_below_drewN | apply below_drew)⟩) : p := h
theorem zz15 {p : Prop} (h : p := by rw [IntKind.wrap_i64]; omega) : p := h
theorem zz16 {p : Prop} (h : p := by first | exact H.out.alloc _ | exact (H.out.alloc _).drewN _ | exact ((H.out.alloc _).drewN _).drewN _ | exact (((H.out.alloc _).drewN _).drewN _).drewN _) : p := h
theorem zz17 {p : Prop} (h : p := by exact ⟨by rfl, by repeat (exact Drawn0.refl _)⟩) : p := h
theorem zz18 {p : Prop} (h : p := by first | exact H3.out | exact H3.out.drewN _ | exact (H3.out.drewN _).drewN _) : p := h
theorem zz19 {p : Prop} (h : p := by repeat (first | (with_reducible first | exact HB.out | apply below_alloc | apply pw_below_drewN | apply below_drew1 | refine below_set ?_ GE404.out) | exact HB.out)) : p := h
theorem zz20 {p : Prop} (h : p := by repeat (first | (with_reducible first | exact HB.out | apply below_alloc | apply pw_below_drewN | apply below_drew1 | refine below_set ?_ GE406.out) | exact HB.out)) : p := h
theorem zz21 {p : Prop} (h : p := by repeat (first | exact Below.refl _ _ | apply pw_below_drewN | apply below_drew | apply below_alloc)) : p := h
theorem zz22 {p : Prop} (h : p := by exact ⟨_, _, rfl, Kd.R_nil _ _ _ _ _, Kd.R_nil _ _ _ _ _, (H6.out.2.2.1.bel.setCell (p := ⟨w.heap.size + 1, 0, none⟩) (Nat.le_succ_of_le HW0.out) _).setCell (p := ⟨w.heap.size + 1, 1, none⟩) (Nat.le_succ_of_le HW0.out) _⟩) : p := h
theorem zz23 {p : Prop} (h : p := by have := HLS.out; omega) : p := h
theorem zz24 {p : Prop} (h : p := by rw [hg]; exact (below_size (zz0))) : p := h
theorem zz25 {p : Prop} (h : p := by repeat (with_reducible first | exact Below.refl _ _ | apply below_alloc | apply below_drew)) : p := h
theorem zz26 {p : Prop} (h : p := by first | exact H3.out | exact H3.out.drewN _) : p := h
theorem zz27 {p : Prop} (h : p := by repeat (first | (with_reducible first | exact HB.out | apply below_alloc | apply pw_below_drewN | apply below_drew1 | refine below_set ?_ GE410.out) | exact HB.out)) : p := h
theorem zz28 {p : Prop} (h : p := by repeat (first | (with_reducible first | exact HB.out | apply below_alloc | apply pw_below_drewN | apply below_drew1 | refine below_set ?_ GE381.out) | exact HB.out)) : p := h
theorem zz29 {p : Prop} (h : p := by exact ⟨ret_si hwk, by first | exact (show Below w.heap.size w _ from pw_below_drewN hbel2.out _).trans (Below.mono (by assumption) (by simp; omega)) | (repeat (first | exact hbel2.out | exact below_then (pw_below_drewN hbel2.out _) (by simp; omega) (by assumption) | refine pw_below_drewN ?_ _ | refine below_drew ?_))⟩) : p := h
theorem zz30 {p : Prop} (h : p := by exact ⟨rfl, by repeat (first | exact hbel.out | refine pw_below_drewN ?_ _)⟩) : p := h
theorem zz31 {p : Prop} (h : p := by first | exact below_alloc (Below.refl _ _) _ | exact below_drew (below_alloc (Below.refl _ _) _)) : p := h
theorem zz32 {p : Prop} (h : p := by have hbn := blk_new (w.alloc (.cells #[.pointer (some ⟨g, 0, none⟩)] 46)) (.cells #[.slice none 0 0, .slice none 0 0] 27); simpa using hbn) : p := h
theorem zz33 {p : Prop} (h : p := by have := HLT.out; omega) : p := h
theorem zz34 {p : Prop} (h : p := by first | exact HB.out | exact below_drew HB.out) : p := h
theorem zz35 {p : Prop} (h : p := by first | exact blk_new _ _ | exact blk_drew (blk_new _ _) | exact blk_drewN (blk_new _ _) _) : p := h
theorem zz36 {p : Prop} (h : p := by have := HK1.out; omega) : p := h
theorem zz37 {p : Prop} (h : p := by exact ⟨ad, e, hc 0 _ rfl, by rw [← add_field _ _ 1 (by omega)]; exact hc 1 _ rfl, by rw [← add_field _ _ 2 (by omega)]; exact hc 2 _ rfl, by rw [← add_field _ _ 3 (by omega)]; exact hc 3 _ rfl, by rw [← add_field _ _ 4 (by omega)]; exact hc 4 _ rfl⟩) : p := h
theorem zz38 {p : Prop} (h : p := by rw [List.length_append, List.length_singleton]; omega) : p := h
theorem zz39 {p : Prop} (h : p := by rw [List.length_append]; omega) : p := h
end Go.Proofs.YtlhhhlimjajnlaaGreat
