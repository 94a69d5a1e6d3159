/- The walks of the functions that give the words of packages sha and bobstayref04. No condition. -/
import Derived.Test.YtnidpncacgknkaaBig
namespace Go.Proofs.Ytnidpncacgknkaa
open Go.RowKit
attribute [local go_sem] ite_max ite_min
attribute [local go_sem] h_lt1 h_lt2 h_lt3 h_lt4 h_lt5 h_lt6 h_eq1 h_qe1 h_eq2 h_qe2 h_eq3 h_qe3 h_eq4 h_qe4 h_eq5 h_qe5 h_eq6 h_qe6
theorem big51_of {o : Oper} {g i : Nat} {v : Value} {a : Act} {w : World} {K : Act → World → Prop} {Q : Exit → Act → World → Prop} (l : List W32) (hv : v = wagg l) (hl : l.length = 64) (h : w.there g i 64)
    (hK : K (a.put o.dst undef) (w.setCells g i (wl l))) : bigStore o 51 (.pointer (some ⟨g, i, none⟩)) v a w K Q := by
  subst hv
  rw [bs51 o g i l a K Q hl h]
  exact hK
theorem big37_of {o : Oper} {g i : Nat} {v : Value} {a : Act} {w : World} {K : Act → World → Prop} {Q : Exit → Act → World → Prop} (s : S8) (hv : v = sagg s) (h : w.there g i 8)
    (hK : K (a.put o.dst undef) (w.setCells g i (sl s))) : bigStore o 37 (.pointer (some ⟨g, i, none⟩)) v a w K Q := by
  subst hv
  rw [bs37 o g i s a K Q h]
  exact hK
theorem big24_of {o : Oper} {g i : Nat} {v : Value} {a : Act} {w : World} {K : Act → World → Prop} {Q : Exit → Act → World → Prop} (l : List B8) (hv : v = bagg l) (hl : l.length = 32) (h : w.there g i 32)
    (hK : K (a.put o.dst undef) (w.setCells g i (bl l))) : bigStore o 24 (.pointer (some ⟨g, i, none⟩)) v a w K Q := by
  subst hv
  rw [bs24 o g i l a K Q hl h]
  exact hK
theorem ret37 {W : World} {g : Nat} (s : S8) (h : Blk W g 37 (sl s).toArray) : (loadVar 37 ⟨g, 0, none⟩).run Try.prog W = .ok (sagg s) W := by
  rw [ldv37 g 0 (h.there0 8 rfl), h.agg 8 rfl]
  rfl
theorem ret51 {W : World} {g : Nat} (l : List W32) (hl : l.length = 64) (h : Blk W g 51 (wl l).toArray) : (loadVar 51 ⟨g, 0, none⟩).run Try.prog W = .ok (wagg l) W := by
  rw [ldv51 g 0 (h.there0 64 ((wl_len l).trans hl)), h.agg 64 ((wl_len l).trans hl)]
  rfl
theorem ret24 {W : World} {g : Nat} (l : List B8) (hl : l.length = 32) (h : Blk W g 24 (bl l).toArray) : (loadVar 24 ⟨g, 0, none⟩).run Try.prog W = .ok (bagg l) W := by
  rw [ldv24 g 0 (h.there0 32 ((bl_len l).trans hl)), h.agg 32 ((bl_len l).trans hl)]
  rfl
theorem ret26 {W : World} {g : Nat} (l : List B8) (hl : l.length = 16) (h : Blk W g 26 (bl l).toArray) : (loadVar 26 ⟨g, 0, none⟩).run Try.prog W = .ok (bagg l) W := by
  rw [ldv26 g 0 (h.there0 16 ((bl_len l).trans hl)), h.agg 16 ((bl_len l).trans hl)]
  rfl
theorem first30 (w : World) : Gives Try.prog 30 #[] w (sagg first8) := by
  apply gives_of
  (go_enter Try.func30, Try.ntmps30)
  have ht : (w.alloc (.cells z37 37)).there w.heap.size 0 8 := (Blk.new w 37 _).thereN 8 z37_size
  repeat (first | (refine big37_of first8 (by kernel_rfl) ht ?_) | go_step)
  exact fin_cell rfl rfl rfl (ret37 first8 (set37 first8 (Blk.new w 37 _) z37_size)) ⟨rfl, later_sets (by repeat (first | (with_reducible exact Later.refl _) | with_reducible apply Later.latr | with_reducible apply Later.alloc | with_reducible apply Later.drew | (with_reducible refine Later.set ?_ (by (simp; try omega)) _))) (Nat.le_refl _) _ _⟩
theorem first26 (w : World) : Gives Try.prog 26 #[] w (sagg first8) := by
  apply gives_of
  (go_enter Try.func26, Try.ntmps26)
  have ht : (w.alloc (.cells z37 37)).there w.heap.size 0 8 := (Blk.new w 37 _).thereN 8 z37_size
  repeat (first | (refine big37_of first8 (by kernel_rfl) ht ?_) | go_step)
  exact fin_cell rfl rfl rfl (ret37 first8 (set37 first8 (Blk.new w 37 _) z37_size)) ⟨rfl, later_sets (by repeat (first | (with_reducible exact Later.refl _) | with_reducible apply Later.latr | with_reducible apply Later.alloc | with_reducible apply Later.drew | (with_reducible refine Later.set ?_ (by (simp; try omega)) _))) (Nat.le_refl _) _ _⟩
set_option maxRecDepth 100000 in
theorem parts34 (w : World) : Gives Try.prog 34 #[] w (wagg kays) := by
  apply gives_of
  (go_enter Try.func34, Try.ntmps34)
  have ht : (w.alloc (.cells z51 51)).there w.heap.size 0 64 := (Blk.new w 51 _).thereN 64 z51_size
  have hl := len_kays
  repeat go_step
  exact fin_cell rfl rfl rfl (ret51 kays len_kays (set51 kays len_kays (Blk.new w 51 _) z51_size)) ⟨rfl, later_sets (by repeat (first | (with_reducible exact Later.refl _) | with_reducible apply Later.latr | with_reducible apply Later.alloc | with_reducible apply Later.drew | (with_reducible refine Later.set ?_ (by (simp; try omega)) _))) (Nat.le_refl _) _ _⟩
set_option maxRecDepth 100000 in
theorem parts27 (w : World) : Gives Try.prog 27 #[] w (wagg kays) := by
  apply gives_of
  (go_enter Try.func27, Try.ntmps27)
  have ht : (w.alloc (.cells z51 51)).there w.heap.size 0 64 := (Blk.new w 51 _).thereN 64 z51_size
  have hl := len_kays
  repeat go_step
  exact fin_cell rfl rfl rfl (ret51 kays len_kays (set51 kays len_kays (Blk.new w 51 _) z51_size)) ⟨rfl, later_sets (by repeat (first | (with_reducible exact Later.refl _) | with_reducible apply Later.latr | with_reducible apply Later.alloc | with_reducible apply Later.drew | (with_reducible refine Later.set ?_ (by (simp; try omega)) _))) (Nat.le_refl _) _ _⟩
end Go.Proofs.Ytnidpncacgknkaa
