/- law 10: the steps' messages. -/
import Derived.Test.YtmkpbbdocndfbaaOpen
namespace Go.Proofs.Ytmkpbbdocndfbaa
open Go.RowKit Go.Proofs
attribute [local irreducible] Yl JL J G GL GA GQ DR

/-- A message of at most eight words. -/
def Msg.cut8 (m : Msg) : Msg := { m with words := m.words.take 8 }
theorem cut8_len (m : Msg) : m.cut8.words.length ≤ 8 := by simp [Msg.cut8]; omega
theorem StpC.open_ {w : World} {ok : Nat → Prop} {cs : List Value} {s : Stp} (h : Foot (fun w => StpC w cs s) w ok) : ∃ ws, cs = stpC ws s ∧ Foot (fun w => RInts w ws s.m.words) w ok ∧ ws.oneCell' = true := by
  obtain ⟨ws, hc, hr⟩ := h.now
  refine ⟨ws, hc, h.imp fun w' hw => ?_, hr.one⟩
  obtain ⟨ws', hc', hr'⟩ := hw
  rw [hc] at hc'
  have : ws = ws' := by simp [stpC, msgC] at hc'; exact hc'
  rw [this]; exact hr'
/-- Step.message. -/
theorem message10_spec {w : World} {ok : Nat → Prop} {ws : Value} {s : Stp} (h : Foot (fun w => RInts w ws s.m.words) w ok) :
    Calls Try.prog 30 #[.agg (stpC ws s).toArray] w fun e w' => ∃ r, e = .returned r ∧ Ext No w w' ∧ ∃ ws', r = .agg (msgC ws' s.m.cut8).toArray ∧ Foot (fun w => RInts w ws' s.m.cut8.words) w' ok ∧ ws'.oneCell' = true := by
  obtain ⟨A, c, rfl, hc, hm⟩ := h.now.slice
  refine Calls.of_G1 Try.func30 rfl Try.ntmps30 rfl ?_
  refine J.at (C := Cls w No []) ?_ (Cls.start _ _)
  unfold stpC msgC
  repeat (first | (apply JL.y; (apply Y_fieldAddr; rfl; rfl); rfl) | refine J.seq ?_ | refine J.region ?_ | refine JL.nil ?_ | (apply JL.box; rfl; rfl; rfl; intro _) | (apply JL.alloc; rfl; rfl; intro _))
  (apply JL.y; (apply Y_loadS 1; rfl; rfl; exact inferInstance; exact (rfl : _ = [Value.slice A s.m.words.length c, .int .i64 s.m.lane, .int .i64 s.m.stamp, .int .i64 s.m.late, .int .i64 s.m.seq]); rfl); rfl)
  repeat (first | (apply JL.y; (first | (apply Y_fieldAddr; rfl; rfl) | (apply Y_load1 0; rfl; rfl; rfl; exact inferInstance) | (apply Y_len; rfl) | (apply Y_min; rfl; rfl)); rfl) | refine J.seq ?_ | refine J.region ?_ | refine JL.nil ?_ | (apply JL.alloc; rfl; rfl; intro _) | (apply JL.store; (apply St_W 0; rfl; rfl; rfl; exact inferInstance; rfl; rfl; (first | (focus (simp [Value.oneCell']; done)) | (simp [Value.oneCell']; assumption) | (simp [Value.oneCell']; exact ⟨by assumption, by assumption⟩)); (first | (focus (simp only [List.set_cons_zero]; done)) | (simp only [List.set_cons_zero]; rfl)))))
  apply JL.y (Y_slice_h rfl rfl (by omega)) rfl
  repeat (first | (apply JL.y; (first | (apply Y_fieldAddr; rfl; rfl) | (apply Y_loadW 0; rfl; rfl; exact inferInstance; rfl)); rfl) | refine J.seq ?_ | refine J.region ?_ | refine JL.nil ?_ | (apply JL.store; (first | (apply St_1 0; rfl; rfl; exact inferInstance; (first | rfl | assumption); rfl; rfl; (first | (focus (simp only [List.set_cons_zero]; done)) | (simp only [List.set_cons_zero]; rfl))) | (apply St_W 1; rfl; rfl; rfl; exact inferInstance; rfl; rfl; (first | (focus (simp [Value.oneCell']; done)) | (simp [Value.oneCell']; assumption) | (simp [Value.oneCell']; exact ⟨by assumption, by assumption⟩)); (first | (focus (simp only [List.set_cons_zero, List.set_cons_succ]; done)) | (simp only [List.set_cons_zero, List.set_cons_succ]; rfl))))))
  have hmin : (min (s.m.words.length : Int) 8).toNat = (s.m.words.take 8).length := by rw [List.length_take]; omega
  rw [hmin]
  refine J.ret1 Try.func30 Try.results30 (RV.W 1 rfl rfl rfl) fun w' hw' => ⟨_, rfl, hw'.ext, .slice A (s.m.words.take 8).length c, rfl, (h.imp fun w hw => ?_).ext0 hw'.ext, rfl⟩
  have h1 := RRow.take hw (i := (s.m.words.take 8).length) (by rw [ints_len, List.length_take]; omega)
  unfold RInts
  have h2 : ints s.m.cut8.words = (ints s.m.words).take (s.m.words.take 8).length := by
    simp only [Msg.cut8, ints, List.map_take, List.length_take]
    rcases Nat.le_total 8 s.m.words.length with h8 | h8
    · rw [Nat.min_eq_left h8]
    · rw [Nat.min_eq_right h8, List.take_of_length_le (by simpa using h8), List.take_of_length_le (by simp)]
  rw [h2]; exact h1
end Go.Proofs.Ytmkpbbdocndfbaa
