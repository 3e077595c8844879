/- The document's lanes: Take, Sweep. -/
import Derived.Test.YtmkpbbdocndfbaaRef10b
namespace Go.Proofs.Ytmkpbbdocndfbaa
open Go.RowKit Go.Proofs
attribute [local irreducible] Yl JL J G GL GA GQ DR

theorem apart_sub : ∀ {H H' : List Blk}, H'.Sublist H → Apart H → Apart H'
  | _, _, .slnil, _ => trivial
  | _, _, .cons _ hs, h => apart_sub hs h.2
  | _, _, .cons_cons _ hs, h => ⟨fun y hy => h.1 y (hs.subset hy), apart_sub hs h.2⟩
/-- Of some blocks alone. -/
theorem Cls.sub {w0 w : World} {D : Nat → Prop} {H H' : List Blk} (h : Cls w0 D H w) (hs : H'.Sublist H) : Cls w0 D H' w := ⟨h.ext, fun x hx => h.has x (hs.subset hx), apart_sub hs h.apart, fun x hx => h.mine x (hs.subset hx)⟩
section
open Go.Proofs.YtmkpbbdocndfbaaW.PrintLast
variable {P : Program} {f n : Nat} {R : Ending → World → Prop} {k : List Item} {e : Env} {w : World} {C C' S : World → Prop} {ops : Array Oper} {ty t : TypeId} {pos : String} {aft : Array Edge} {fuel : Nat} {x y : Operand} {ds : List Nat} {l : Array Bool}
/-- A region that draws its order: what is known at its begin is more than what holds behind each operation. -/
theorem J.drawC [hm : Wide P] {id m : Nat} (S : World → Prop) (ds : List Nat) (l0 : Array Bool) (hn : ops.size = m) (hl : Array.replicate m false = l0) (hC : ∀ w, C w → S w.drew)
    (h : ∀ w, C w → S w.drew → DR P f n R S ds ops m l0 k e w.drew) : J P f n R C (.code (.region id ops true) :: k) e := by
  unfold J G
  exact fun w hw a ha => .of_wp (start_ l0 hm.h hn hl (hC w hw) fun hS => by have := h _ hw hS; unfold DR at this; exact this a ha)
/-- A store behind which S holds. -/
theorem DR.storeS (i : Nat) (l' : Array Bool) (hi : ops[i]? = some ⟨none, .store t x y, ty, pos, aft, none⟩) (hc : readyB .any ops l l' i = true) (hds : (ds.contains i) = false) (hw : C w) (hst : Stores P n e C C' ⟨none, .store t x y, ty, pos, aft, none⟩)
    (hS : ∀ w', C' w' → S w') (hk : ∀ w', C' w' → DR P f n R S ds ops fuel l' k e w') : DR P f n R S ds ops (fuel + 1) l k e w := by
  unfold DR
  intro a ha
  obtain ⟨w', hr, hC⟩ := hst a w ha hw
  refine one_ l' hi rfl hc (by simpa using hds) fun K hK => want_if rfl ?_
  unfold Oper.wp
  rw [hr]
  exact hK.out _ _ (hS w' hC) fun _ => by have := hk w' hC; unfold DR at this; exact this _ ha
end
theorem rl_one {ln pl : Int} {v : Value} (h : v.oneCell' = true) : ∀ u ∈ rlC ln pl v, u.oneCell' = true := by
  intro u hu
  simp only [rlC, List.mem_cons, List.not_mem_nil, or_false] at hu
  rcases hu with rfl | rfl | rfl <;> first | exact h | rfl
set_option maxHeartbeats 1000000 in
/-- empennageref10.Take. -/
theorem rTake_spec {w : World} {ok : Nat → Prop} {v : Value} {zs : Zs} {ln pl : Int} (h : Rd 5 MsgC w ok v zs) :
    Calls Try.prog 32 #[.agg (rlC ln pl v).toArray] w fun e w' => ∃ r, e = .returned r ∧ Ext No w w' ∧ ∃ v' vm, r = .tuple #[.agg (rlC ln pl v').toArray, vm, .bool (takeR (zs.map (·.2))).2.1] ∧ Rd 5 MsgC w' ok v' (zs.drop 1) ∧ Foot (fun w => RMsg w vm (takeR (zs.map (·.2))).1) w' ok := by
  obtain ⟨A, c, rfl, hc, hm⟩ := h.slice
  refine Calls.of_G1 Try.func32 rfl Try.ntmps32 rfl ?_
  refine J.at (C := Cls w No []) ?_ (Cls.start _ _)
  unfold rlC
  repeat (first | (apply JL.y; (first | (apply Y_assign; rfl) | (apply Y_fieldAddr; rfl; rfl) | (apply Y_load1 2; rfl; rfl; rfl; exact inferInstance) | (apply Y_len; rfl) | (apply Y_eql; rfl; rfl)); rfl) | refine J.seq ?_ | refine J.region ?_ | refine JL.nil ?_ | (apply JL.box; rfl; rfl; rfl; intro _) | (apply JL.alloc; rfl; rfl; intro _))
  refine J.cond_d rfl (fun h0 => ?_) (fun h0 => ?_)
  · have hz : zs = [] := List.eq_nil_of_length_eq_zero (by omega)
    subst hz
    repeat (first | (apply JL.y; (first | (apply Y_assign; rfl) | (apply Y_loadW 2; rfl; rfl; exact inferInstance; rfl) | (apply Y_build; rfl; exact inferInstance)); rfl) | refine J.seq ?_ | refine J.region ?_ | refine JL.nil ?_ | (apply JL.store; (first | (apply St_W 0; rfl; rfl; rfl; exact inferInstance; rfl; rfl; (first | (focus (simp [Value.oneCell']; done)) | (simp [Value.oneCell']; assumption) | (simp [Value.oneCell']; exact ⟨by assumption, by assumption⟩)); (first | (focus (simp only [List.set_cons_zero]; done)) | (simp only [List.set_cons_zero]; rfl))) | (apply St_W 1; rfl; rfl; rfl; exact inferInstance; rfl; rfl; (first | (focus (simp [Value.oneCell']; done)) | (simp [Value.oneCell']; assumption) | (simp [Value.oneCell']; exact ⟨by assumption, by assumption⟩)); (first | (focus (simp only [List.set_cons_zero, List.set_cons_succ]; done)) | (simp only [List.set_cons_zero, List.set_cons_succ]; rfl))))))
    exact J.ret3 Try.func32 Try.results32 (RV.W 1 rfl rfl rfl) (RV.W 0 rfl rfl rfl) (RV.tm rfl) fun w' hw' => ⟨_, rfl, hw'.ext, _, _, rfl, h.ext0 hw'.ext, zero_msg w' _⟩
  obtain ⟨ad, _, e1⟩ := h.base (by omega) (by omega)
  cases e1
  obtain ⟨z, hx⟩ : ∃ z, zs[0]? = some z := ⟨_, List.getElem?_eq_getElem (by omega)⟩
  have l1 := (h.lds (P := Try.prog) (t := 33) hx)
  have hel := h.el z (List.mem_of_getElem? hx)
  obtain ⟨ws, hws, hwr, hl8, ho⟩ := MsgC.open_ hel
  have hd := h.drop (i := 1) (by omega)
  have hT : takeR (zs.map (·.2)) = (z.2, true, (zs.map (·.2)).drop 1) := by
    cases zs with
    | nil => simp at hx
    | cons y r => simp at hx; subst hx; rfl
  repeat (first | (apply JL.y; (first | (apply Y_fieldAddr; rfl; rfl) | (apply Y_load1 2; rfl; rfl; rfl; exact inferInstance)); rfl) | refine J.seq ?_ | refine J.region ?_ | refine J.skip ?_)
  apply JL.y (Y_indexAddr rfl rfl (by omega)) rfl
  apply JL.y (Y_loadP rfl fun w' hw' => l1.at_ hw'.ext fun _ _ _ h => h) rfl
  rw [hws]
  unfold msgC
  repeat (first | (apply JL.y; (first | (apply Y_fieldAddr; rfl; rfl) | (apply Y_load1 3; rfl; rfl; rfl; exact inferInstance)); rfl) | refine J.seq ?_ | refine J.region ?_ | refine JL.nil ?_ | (apply JL.alloc; rfl; rfl; intro _) | (apply JL.store; (apply St_W 0; rfl; rfl; rfl; exact inferInstance; rfl; rfl; (first | (focus (simp [Value.oneCell']; done)) | (simp [Value.oneCell']; assumption) | (simp [Value.oneCell']; exact ⟨by assumption, by assumption⟩)); (first | (focus (simp only [List.set_cons_zero]; done)) | (simp only [List.set_cons_zero]; rfl)))))
  apply JL.y (Y_slice_l rfl rfl (by omega)) rfl
  rw [show (1 : Int).toNat = 1 from rfl]
  repeat (first | (apply JL.y; (apply Y_fieldAddr; rfl; rfl); rfl) | refine J.seq ?_ | refine JL.nil ?_ | (apply JL.store; (apply St_1 3; rfl; rfl; exact inferInstance; (first | rfl | assumption); rfl; rfl; (first | (focus (simp only [List.set_cons_zero, List.set_cons_succ]; done)) | (simp only [List.set_cons_zero, List.set_cons_succ]; rfl)))))
  rename_i b1 b2 b3 b5
  refine J.drawC (S := Cls _ _ [_, _, _]) [3] #[false, false, false, false, false] rfl rfl (fun w hw => hw.drew.sub (.cons_cons _ (.cons_cons _ (.cons _ (.cons_cons _ .slnil))))) (fun w hC0 hS => ?_)
  have hC := hC0.drew
  generalize w.drew = wd at hS hC ⊢
  (apply DR.take 0 #[true, false, false, false, false]; rfl; kernel_rfl; (first | (apply Y_load1 0; rfl; rfl; rfl; exact inferInstance) | (apply Y_load1 1; rfl; rfl; rfl; exact inferInstance) | (apply Y_load1 2; rfl; rfl; rfl; exact inferInstance) | (apply Y_load1 3; rfl; rfl; rfl; exact inferInstance) | (apply Y_loadW 0; rfl; rfl; exact inferInstance; rfl) | (apply Y_loadW 1; rfl; rfl; exact inferInstance; rfl) | (apply Y_loadW 2; rfl; rfl; exact inferInstance; rfl) | (apply Y_loadW 3; rfl; rfl; exact inferInstance; rfl)); rfl; exact hS)
  (apply DR.take 1 #[true, true, false, false, false]; rfl; kernel_rfl; (first | (apply Y_load1 0; rfl; rfl; rfl; exact inferInstance) | (apply Y_load1 1; rfl; rfl; rfl; exact inferInstance) | (apply Y_load1 2; rfl; rfl; rfl; exact inferInstance) | (apply Y_load1 3; rfl; rfl; rfl; exact inferInstance) | (apply Y_loadW 0; rfl; rfl; exact inferInstance; rfl) | (apply Y_loadW 1; rfl; rfl; exact inferInstance; rfl) | (apply Y_loadW 2; rfl; rfl; exact inferInstance; rfl) | (apply Y_loadW 3; rfl; rfl; exact inferInstance; rfl)); rfl; exact hS)
  (apply DR.storeS 2 #[true, true, true, false, false]; rfl; kernel_rfl; rfl; exact hC; (apply St_W 2; rfl; rfl; rfl; exact inferInstance; rfl; rfl; simp [Value.oneCell']; rfl); (exact fun w' hw' => hw'.sub (.cons_cons _ (.cons_cons _ (.cons _ (.cons_cons _ .slnil))))); intro w1 hC1)
  (apply DR.store 3 #[true, true, true, true, false]; rfl; kernel_rfl; rfl; exact hC1; (apply St_W 1; rfl; rfl; rfl; exact inferInstance; rfl; rfl; (simp [Value.oneCell']; exact ho); rfl); intro w2 hC2)
  (apply DR.pure 4 #[true, true, true, true, true]; rfl; kernel_rfl; (apply Y_assign; rfl); rfl)
  refine DR.done (by kernel_rfl) ?_
  refine J.at (C := Cls _ _ _) ?_ hC2
  skip
  refine J.ret3 Try.func32 Try.results32 (RV.W 2 rfl rfl rfl) (RV.W 1 rfl rfl rfl) (RV.tm rfl) fun w' hw' => ⟨_, rfl, hw'.ext, _, .agg (msgC ws z.2).toArray, by rw [hT]; rfl, hd.ext0 hw'.ext, ?_⟩
  rw [hT]; exact (RMsg.mk hwr hl8).ext0 hw'.ext
end Go.Proofs.Ytmkpbbdocndfbaa
