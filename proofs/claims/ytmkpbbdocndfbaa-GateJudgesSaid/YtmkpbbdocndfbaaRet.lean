/- The engine: how a call begins and ends (own work). -/
import Derived.Test.YtmkpbbdocndfbaaDraw
namespace Go.Proofs.Ytmkpbbdocndfbaa
open Go.RowKit

section
variable {P : Program} {f n : Nat} {R : Ending → World → Prop} {k : List Item} {e e' : Env} {w w' w0 : World} {a : Act} {C C' S : World → Prop} {D : Nat → Prop} {H H' : List Blk}
variable {fn : Func} {c : Code} {v v0 v1 v2 v3 v4 v5 v6 : Value} {t : TypeId} {b : Nat} {cs l : List Value}

theorem Calls.of_G0 (hf : P.funcs[f]? = some fn) (hb : fn.body = some c) (hn : fn.ntmps = n) (h : G P f n R [.code c] [] w) : Calls P f #[] w R := Calls.of_G hf hb hn rfl (Nat.zero_le _) h
theorem Calls.of_G1 (hf : P.funcs[f]? = some fn) (hb : fn.body = some c) (hn : fn.ntmps = n) (hm : Nat.ble 1 n = true) (h : G P f n R [.code c] [(0, v0)] w) : Calls P f #[v0] w R := Calls.of_G hf hb hn rfl (by simpa using hm) h
theorem Calls.of_G2 (hf : P.funcs[f]? = some fn) (hb : fn.body = some c) (hn : fn.ntmps = n) (hm : Nat.ble 2 n = true) (h : G P f n R [.code c] [(0, v0), (1, v1)] w) : Calls P f #[v0, v1] w R := Calls.of_G hf hb hn rfl (by simpa using hm) h
theorem Calls.of_G3 (hf : P.funcs[f]? = some fn) (hb : fn.body = some c) (hn : fn.ntmps = n) (hm : Nat.ble 3 n = true) (h : G P f n R [.code c] [(0, v0), (1, v1), (2, v2)] w) : Calls P f #[v0, v1, v2] w R := Calls.of_G hf hb hn rfl (by simpa using hm) h
theorem Calls.of_G4 (hf : P.funcs[f]? = some fn) (hb : fn.body = some c) (hn : fn.ntmps = n) (hm : Nat.ble 4 n = true) (h : G P f n R [.code c] [(0, v0), (1, v1), (2, v2), (3, v3)] w) : Calls P f #[v0, v1, v2, v3] w R := Calls.of_G hf hb hn rfl (by simpa using hm) h
theorem Calls.of_G5 (hf : P.funcs[f]? = some fn) (hb : fn.body = some c) (hn : fn.ntmps = n) (hm : Nat.ble 5 n = true) (h : G P f n R [.code c] [(0, v0), (1, v1), (2, v2), (3, v3), (4, v4)] w) : Calls P f #[v0, v1, v2, v3, v4] w R := Calls.of_G hf hb hn rfl (by simpa using hm) h
theorem Calls.of_G6 (hf : P.funcs[f]? = some fn) (hb : fn.body = some c) (hn : fn.ntmps = n) (hm : Nat.ble 6 n = true) (h : G P f n R [.code c] [(0, v0), (1, v1), (2, v2), (3, v3), (4, v4), (5, v5)] w) : Calls P f #[v0, v1, v2, v3, v4, v5] w R := Calls.of_G hf hb hn rfl (by simpa using hm) h

theorem J.intro (h : ∀ w, C w → G P f n R k e w) : J P f n R C k e := h
theorem JL.intro {ops : Array Oper} {l : List Oper} (h : ∀ w, C w → GL P f n R ops l k e w) : JL P f n R C ops l k e := h
theorem G.of_J (hw : C w) (h : J P f n R C k e) : G P f n R k e w := h w hw
theorem GL.of_JL {ops : Array Oper} {l : List Oper} (hw : C w) (h : JL P f n R C ops l k e) : GL P f n R ops l k e w := h w hw
/-- What a result's slot holds. -/
def RV (P : Program) (C : World → Prop) (e : Env) : ResultVar → Value → Prop
  | .tmp t, v => e.get t = some v
  | .cell x t, v => ∃ p, e.get x = some (.pointer (some p)) ∧ ∀ w, C w → Lds P t p v w
/-- One result. -/
def resS (tmps : Array Value) : ResultVar → Sem Value
  | .tmp t => pure (tmps.getD t undef)
  | .cell x t => do loadVar t (← asAddr (tmps.getD x undef))
theorem results_def (fn : Func) (tmps : Array Value) : results fn tmps = (do
  let vs ← fn.results.mapM (resS tmps)
  pure (if h : vs.size = 1 then vs[0] else .tuple vs)) := rfl
theorem RV.run {r : ResultVar} (h : RV P C e r v) (ha : Fits n e a) (hw : C w) : (resS a.tmps r).run P w = .ok v w := by
  cases r with
  | tmp t => have := ha.get t v h; simp only [resS, this]; rfl
  | cell x t =>
    obtain ⟨p, hp, hl⟩ := h
    have h1 := ha.get x _ hp
    have h2 := hl w hw
    unfold Lds at h2
    simp only [resS, h1, asAddr, Sem.run_bind, Sem.run_pure, Result.andThen_ok, h2]
theorem RV.tm {i : Nat} (h : e.get i = some v) : RV P C e (.tmp i) v := h
theorem RV.ce {i : Nat} {p : Addr} (h : e.get i = some (.pointer (some p))) (hl : ∀ w, C w → Lds P t p v w) : RV P C e (.cell i t) v := ⟨p, h, hl⟩
theorem RV.W {i s : Nat} {zv : Value} [ht : TI P t true s zv] {bt : TypeId} (j : Nat) (hx : e.get i = some (.pointer (some ⟨b, 0, none⟩))) (hH : H[j]? = some ⟨b, cs, bt⟩) (hl : cs.length = s) : RV P (Cls w0 D H) e (.cell i t) (.agg cs.toArray) :=
  ⟨_, hx, fun w hw => Lds.many (hw.has _ (List.mem_of_getElem? hH)) (by simp [← hl]) hl⟩

theorem res0 (hr : fn.results = #[]) (tmps : Array Value) (w : World) : (results fn tmps).run P w = .ok (.tuple #[]) w := by simp [results, hr]
theorem J.ret0 (hf : P.funcs[f]? = some fn) (hr : fn.results = #[]) (hR : ∀ w, C w → R (.returned (.tuple #[])) w) : J P f n R C (.code .ret :: k) e := fun w hw => .ret hf (fun a _ => res0 hr a.tmps w) (hR w hw)
theorem J.end0 (hf : P.funcs[f]? = some fn) (hr : fn.results = #[]) (hR : ∀ w, C w → R (.returned (.tuple #[])) w) : J P f n R C [] e := fun w hw => .end_ hf (fun a _ => res0 hr a.tmps w) (hR w hw)
theorem J.ret1 {r : ResultVar} (hf : P.funcs[f]? = some fn) (hr : fn.results = #[r]) (h0 : RV P C e r v) (hR : ∀ w, C w → R (.returned v) w) : J P f n R C (.code .ret :: k) e :=
  fun w hw => .ret hf (fun a ha => by
    rw [results_def, hr]
    simp [h0.run ha hw]) (hR w hw)
theorem J.ret2 {r0 r1 : ResultVar} (hf : P.funcs[f]? = some fn) (hr : fn.results = #[r0, r1]) (h0 : RV P C e r0 v0) (h1 : RV P C e r1 v1) (hR : ∀ w, C w → R (.returned (.tuple #[v0, v1])) w) : J P f n R C (.code .ret :: k) e :=
  fun w hw => .ret hf (fun a ha => by
    rw [results_def, hr]
    simp [h0.run ha hw, h1.run ha hw]) (hR w hw)
theorem J.ret3 {r0 r1 r2 : ResultVar} (hf : P.funcs[f]? = some fn) (hr : fn.results = #[r0, r1, r2]) (h0 : RV P C e r0 v0) (h1 : RV P C e r1 v1) (h2 : RV P C e r2 v2) (hR : ∀ w, C w → R (.returned (.tuple #[v0, v1, v2])) w) : J P f n R C (.code .ret :: k) e :=
  fun w hw => .ret hf (fun a ha => by
    rw [results_def, hr]
    simp [h0.run ha hw, h1.run ha hw, h2.run ha hw]) (hR w hw)
theorem J.ret4 {r0 r1 r2 r3 : ResultVar} (hf : P.funcs[f]? = some fn) (hr : fn.results = #[r0, r1, r2, r3]) (h0 : RV P C e r0 v0) (h1 : RV P C e r1 v1) (h2 : RV P C e r2 v2) (h3 : RV P C e r3 v3) (hR : ∀ w, C w → R (.returned (.tuple #[v0, v1, v2, v3])) w) : J P f n R C (.code .ret :: k) e :=
  fun w hw => .ret hf (fun a ha => by
    rw [results_def, hr]
    simp [h0.run ha hw, h1.run ha hw, h2.run ha hw, h3.run ha hw]) (hR w hw)
end
end Go.Proofs.Ytmkpbbdocndfbaa
