/- The document's lanes: Put. -/
import Derived.Test.YtmkpbbdocndfbaaRef10d
import Derived.Test.YtmkpbbdocndfbaaLaneSame
namespace Go.Proofs.Ytmkpbbdocndfbaa
open Go.RowKit Go.Proofs
attribute [local irreducible] Yl JL J G GL GA GQ DR

theorem Apd.refl (w : World) (v : Value) : Apd w w v v := ⟨.refl _ _, .inl rfl⟩
section
variable {P : Program} {f n : Nat} {R : Ending → World → Prop} {k : List Item} {e : Env} {w : World} {ops : Array Oper} {rest : List Oper} {ty t : TypeId} {pos : String} {aft : Array Edge} {d el sz bytes : Nat} {v u : Value} {x y : Operand} {chs : List (List Value)}
/-- An append of what is read, to a row of one's own. -/
theorem GL.appendR {z : Value} [ha : AI P t el z sz bytes] [hs : SI P t el sz] (hx : opv e x = some v) (hy : opv e y = some u) (hsz : 0 < sz) (hr : Row w el sz v chs) {news : List (List Value)} (hn : RRow w sz u news) (h1 : ∀ ch ∈ news, ∀ u ∈ ch, u.oneCell' = true)
    (hb : chs.length + news.length ≤ 2000000) (hby : bytes ≤ 1000) (hd : Nat.blt d n = true) (hk : ∀ v' w', Row w' el sz v' (chs ++ news) → Apd w w' v v' → GL P f n R ops rest k ((d, v') :: e) w') :
    GL P f n R ops (⟨some d, .call { callee := .builtin .append, args := #[x, y], argTypes := #[t, t] }, ty, pos, aft, none⟩ :: rest) k e w := by
  obtain ⟨A, c, rfl, hc, hm⟩ := hn.slice
  rcases Nat.eq_zero_or_pos news.length with h0 | h0
  · have hnil := List.eq_nil_of_length_eq_zero h0
    subst hnil
    obtain ⟨B, c2, hv, hc2, _⟩ := hr.slice
    subst hv
    have hk' := hk _ w (by simpa using hr) (Apd.refl _ _)
    unfold GL at hk' ⊢
    intro a hf
    refine wpList_val rfl ?_ (hk' _ (hf.put (by simpa using hd) _))
    have := run_appendN (P := P) (t := t) (el := el) (sz := sz) (ty := ty) (A := A) (B := B) (c' := c) hc2 w
    simp [execOp, resolve, invoke, builtin, hf.eval hx, hf.eval hy, this]
  · obtain ⟨ad, c', e1⟩ := hn.some hsz h0
    cases e1
    have hmul := Nat.mul_le_mul hb hby
    exact GL.append hx hy hsz hr news rfl hn.size (rrow_news hn hsz) h1 (by omega) (by simp [maxLen]; omega) hd hk
end
theorem MsgC.ones {w : World} {ok : Nat → Prop} {zs : Zs} (h : ∀ z ∈ zs, Foot (fun w => MsgC w z.1 z.2) w ok) : ∀ ch ∈ zs.map (·.1), ∀ u ∈ ch, u.oneCell' = true := fun ch hch => by
  obtain ⟨z, hz, rfl⟩ := List.mem_map.1 hch
  obtain ⟨ws, hws, _, _, ho⟩ := MsgC.open_ (h z hz)
  rw [hws]; exact msgC_one ho
/-- What the document's Put makes of a list in its row. -/
def rputR (ln pl : Int) (ms : List Msg) (m : Msg) : Int × List Msg :=
  if ¬ (0 ≤ m.lane ∧ m.lane < ln) then (3, ms) else if room ln pl ms m.lane = 0 then (10, ms) else (0, St.ins Msg.lane m ms)
set_option maxHeartbeats 2000000 in
/-- empennageref10.Put. -/
theorem rPut_spec {w : World} {ok : Nat → Prop} {v : Value} {zs : Zs} {ln pl : Int} (h : Rd 5 MsgC w ok v zs) (hn : zs.length ≤ 1000) (hp : 0 ≤ pl ∧ pl ≤ 1000000) (hsrt : St.Srt Msg.lane (zs.map (·.2))) {ws : Value} {m : Msg} (hm : Foot (fun w => RInts w ws m.words) w ok) (hl8 : m.words.length ≤ 8) :
    Calls Try.prog 29 #[.agg (rlC ln pl v).toArray, .agg (msgC ws m).toArray] w fun e w' => ∃ r, e = .returned r ∧ Ext No w w' ∧ ∃ v' zs', r = .tuple #[.agg (rlC ln pl v').toArray, .int .i64 (rputR ln pl (zs.map (·.2)) m).1] ∧
      Rd 5 MsgC w' (fun k => ok k ∨ w.heap.size ≤ k) v' zs' ∧ zs'.map (·.2) = (rputR ln pl (zs.map (·.2)) m).2 := by
  have ho := hm.now.one
  have hvone : v.oneCell' = true := by obtain ⟨A, c, rfl, _⟩ := h.slice; rfl
  refine Calls.of_G2 Try.func29 rfl Try.ntmps29 rfl ?_
  refine J.at (C := Cls w No []) ?_ (Cls.start _ _)
  unfold rlC msgC
  repeat (first | (apply JL.y; (first | (apply Y_move; rfl) | (apply Y_assign; rfl) | (apply Y_fieldAddr; rfl; rfl) | (apply Y_load1 1; rfl; rfl; rfl; exact inferInstance) | (apply Y_lss; rfl; rfl)); rfl) | refine J.seq ?_ | refine J.region ?_ | refine JL.nil ?_ | (apply JL.box; rfl; rfl; rfl; intro _) | (apply JL.alloc; rfl; rfl; intro _))
  rename_i b2 b3 b4
  by_cases h0 : m.lane < 0
  · have hr : rputR ln pl (zs.map (·.2)) m = (3, zs.map (·.2)) := by rw [rputR, if_pos (by omega)]
    rw [hr, decide_eq_true h0]
    repeat (first | (apply JL.y; (apply Y_pick_t; rfl; rfl); rfl) | refine JL.nil ?_ | (apply JL.guard_no; rfl; rfl; rfl; rfl; rfl))
    apply J.cond_t rfl
    repeat (first | (apply JL.y; (first | (apply Y_assign; rfl) | (apply Y_loadW 2; rfl; rfl; exact inferInstance; rfl)); rfl) | refine J.seq ?_ | refine J.region ?_ | refine JL.nil ?_ | (apply JL.store; (apply St_W 0; rfl; rfl; rfl; exact inferInstance; rfl; rfl; (first | (focus (simp [Value.oneCell']; done)) | (simp [Value.oneCell']; assumption) | (simp [Value.oneCell']; exact ⟨by assumption, by assumption⟩)); (first | (focus (simp only [List.set_cons_zero]; done)) | (simp only [List.set_cons_zero]; rfl)))))
    exact J.ret2 Try.func29 Try.results29 (RV.W 0 rfl rfl rfl) (RV.tm rfl) fun w' hw' => ⟨_, rfl, hw'.ext, v, zs, rfl, (h.ext0 hw'.ext).mono fun k _ hk => .inl hk, rfl⟩
  rw [decide_eq_false h0]
  repeat (first | (apply JL.y; (first | (apply Y_fieldAddr; rfl; rfl) | (apply Y_load1 1; rfl; rfl; rfl; exact inferInstance) | (apply Y_load1 2; rfl; rfl; rfl; exact inferInstance) | (apply Y_geq; rfl; rfl) | (apply Y_pick_f; rfl; rfl)); rfl) | refine JL.nil ?_ | (apply JL.guard_yes; rfl; rfl; rfl))
  refine J.cond_d rfl (fun h1 => ?_) (fun h1 => ?_)
  · have hr : rputR ln pl (zs.map (·.2)) m = (3, zs.map (·.2)) := by rw [rputR, if_pos (by omega)]
    rw [hr]
    repeat (first | (apply JL.y; (first | (apply Y_assign; rfl) | (apply Y_loadW 2; rfl; rfl; exact inferInstance; rfl)); rfl) | refine J.seq ?_ | refine J.region ?_ | refine JL.nil ?_ | (apply JL.store; (apply St_W 0; rfl; rfl; rfl; exact inferInstance; rfl; rfl; (first | (focus (simp [Value.oneCell']; done)) | (simp [Value.oneCell']; assumption) | (simp [Value.oneCell']; exact ⟨by assumption, by assumption⟩)); (first | (focus (simp only [List.set_cons_zero]; done)) | (simp only [List.set_cons_zero]; rfl)))))
    exact J.ret2 Try.func29 Try.results29 (RV.W 0 rfl rfl rfl) (RV.tm rfl) fun w' hw' => ⟨_, rfl, hw'.ext, v, zs, rfl, (h.ext0 hw'.ext).mono fun k _ hk => .inl hk, rfl⟩
  have h01 : ¬ ¬ (0 ≤ m.lane ∧ m.lane < ln) := by omega
  repeat (first | (apply JL.y; (first | (apply Y_fieldAddr; rfl; rfl) | (apply Y_load1 1; rfl; rfl; rfl; exact inferInstance) | (apply Y_loadW 2; rfl; rfl; exact inferInstance; rfl) | (apply Y_eql; rfl; rfl)); rfl) | refine J.seq ?_ | refine J.region ?_ | refine JL.nil ?_ | (apply JL.callq; rfl; rfl; (intro wc hwc; first | exact rRoom_spec (h.ext0 hwc.ext) (by omega) hp _)) | refine J.skip ?_)
  refine J.cond_d rfl (fun h2 => ?_) (fun h2 => ?_)
  · have hr : rputR ln pl (zs.map (·.2)) m = (10, zs.map (·.2)) := by rw [rputR, if_neg h01, if_pos h2]
    rw [hr]
    repeat (first | (apply JL.y; (first | (apply Y_assign; rfl) | (apply Y_loadW 2; rfl; rfl; exact inferInstance; rfl)); rfl) | refine J.seq ?_ | refine J.region ?_ | refine JL.nil ?_ | (apply JL.store; (apply St_W 0; rfl; rfl; rfl; exact inferInstance; rfl; rfl; (first | (focus (simp [Value.oneCell']; done)) | (simp [Value.oneCell']; assumption) | (simp [Value.oneCell']; exact ⟨by assumption, by assumption⟩)); (first | (focus (simp only [List.set_cons_zero]; done)) | (simp only [List.set_cons_zero]; rfl)))))
    exact J.ret2 Try.func29 Try.results29 (RV.W 0 rfl rfl rfl) (RV.tm rfl) fun w' hw' => ⟨_, rfl, hw'.ext, v, zs, rfl, (h.ext0 hw'.ext).mono fun k _ hk => .inl hk, rfl⟩
  have hr : rputR ln pl (zs.map (·.2)) m = (0, St.ins Msg.lane m (zs.map (·.2))) := by rw [rputR, if_neg h01, if_neg h2]
  rw [hr]
  obtain ⟨A, c, rfl, hc, hmx⟩ := h.slice
  repeat (first | refine J.skip ?_)
  refine J.seq ?_
  repeat (first | (apply JL.y; (first | (apply Y_assign; rfl) | (apply Y_fieldAddr; rfl; rfl) | (apply Y_load1 2; rfl; rfl; rfl; exact inferInstance) | (apply Y_len; rfl)); rfl) | refine J.region ?_ | refine JL.nil ?_)
  refine J.seq ?_
  have hstr := h.row
  refine J.joinP (α := Nat) (fun q w' => Ext No w w' ∧ BlkIn w' ⟨b4, [.int .i64 0, .int .i64 0, .slice none 0 0], 28⟩ ∧ BlkIn w' ⟨b3, msgC ws m, 33⟩ ∧ BlkIn w' ⟨b2, [.int .i64 ln, .int .i64 pl, .slice A zs.length c], 28⟩ ∧ b2 ≠ b3 ∧ b2 ≠ b4 ∧ b3 ≠ b4 ∧ w.heap.size ≤ b2 ∧ w.heap.size ≤ b3 ∧ w.heap.size ≤ b4 ∧ q ≤ zs.length ∧ (∀ j y, q ≤ j → (zs.map (·.2))[j]? = some y → m.lane < y.lane) ∧ (∀ y, 0 < q → (zs.map (·.2))[q - 1]? = some y → y.lane ≤ m.lane))
    (fun q => [(2, .pointer (some ⟨b2, 0, none⟩)), (3, .pointer (some ⟨b3, 0, none⟩)), (4, .pointer (some ⟨b4, 0, none⟩)), (6, .int .i64 q)]) (fun k' hj => ?_) (fun q => ?_)
  · repeat (first | refine J.block ?_)
    refine J.intro fun wl hwl => ?_
    have hb4 := hwl.has _ (.head _)
    have hb3 := hwl.has _ (.tail _ (.head _))
    have hb2 := hwl.has _ (.tail _ (.tail _ (.head _)))
    have b4l : w.heap.size ≤ b4 := (hwl.mine _ (.head _)).resolve_left id
    have b3l : w.heap.size ≤ b3 := (hwl.mine _ (.tail _ (.head _))).resolve_left id
    have b2l : w.heap.size ≤ b2 := (hwl.mine _ (.tail _ (.tail _ (.head _)))).resolve_left id
    have b34 : b3 ≠ b4 := hwl.apart.1 _ (.head _)
    have b24 : b2 ≠ b4 := hwl.apart.1 _ (.tail _ (.head _))
    have b23 : b2 ≠ b3 := hwl.apart.2.1 _ (.head _)
    refine G.loop (Inv := fun mm e wl => ∃ (q : Nat), q ≤ zs.length ∧ q = mm ∧ Ext No w wl ∧ BlkIn wl ⟨b4, [.int .i64 0, .int .i64 0, .slice none 0 0], 28⟩ ∧ BlkIn wl ⟨b3, msgC ws m, 33⟩ ∧ BlkIn wl ⟨b2, [.int .i64 ln, .int .i64 pl, .slice A zs.length c], 28⟩ ∧ (∀ j y, q ≤ j → (zs.map (·.2))[j]? = some y → m.lane < y.lane) ∧ e = [(2, .pointer (some ⟨b2, 0, none⟩)), (3, .pointer (some ⟨b3, 0, none⟩)), (4, .pointer (some ⟨b4, 0, none⟩)), (6, .int .i64 q)])
      _ _ ⟨zs.length, Nat.le_refl _, rfl, hwl.ext, hb4, hb3, hb2, (fun j y hj hy => by rw [List.getElem?_eq_none (by simpa using hj)] at hy; cases hy), rfl⟩ ⟨rfl, rfl, rfl, rfl, trivial⟩ ?_
    rintro mm e w1 ⟨q, hq, rfl, hE, hB4, hB3, hB2, hgt, rfl⟩ ih
    have hst : ∀ {H' : List Blk} {w' : World}, Cls w1 (fun k => k = b4 ∨ k = b3 ∨ k = b2) H' w' → (⟨b4, [.int .i64 0, .int .i64 0, .slice none 0 0], 28⟩ : Blk) ∈ H' → (⟨b3, msgC ws m, 33⟩ : Blk) ∈ H' → (⟨b2, [.int .i64 ln, .int .i64 pl, .slice A zs.length c], 28⟩ : Blk) ∈ H' → Ext No w1 w' := fun h h1 h2 h3 => h.still fun k hk => by
      rcases hk with rfl | rfl | rfl
      · exact ⟨_, h1, rfl, hB4⟩
      · exact ⟨_, h2, rfl, hB3⟩
      · exact ⟨_, h3, rfl, hB2⟩
    refine J.at (C := Cls w1 (fun k => k = b4 ∨ k = b3 ∨ k = b2) [_, _, _]) ?_ (Cls.start3 hB4 hB3 hB2 b34 b24 b23)
    unfold msgC
    unfold msgC at hst
    rcases Nat.eq_zero_or_pos q with h0 | h0
    · subst h0
      repeat (first | refine J.seq ?_)
      refine J.draw (S := Cls _ _ _) [] #[false, false, false, false, false, false, false, false, false, false, false, false, false, false] rfl rfl (fun w hw => hw.drew) (fun w hS => ?_)
      (apply DR.pure 0 #[true, false, false, false, false, false, false, false, false, false, false, false, false, false]; rfl; kernel_rfl; (apply Y_move; rfl); rfl)
      (apply DR.take 1 #[true, true, false, false, false, false, false, false, false, false, false, false, false, false]; rfl; kernel_rfl; exact Y_gtr_f rfl rfl (by omega); rfl; exact hS)
      (apply DR.pure 2 #[true, true, true, false, false, false, false, false, false, false, false, false, false, false]; rfl; kernel_rfl; (apply Y_move; rfl); rfl)
      (apply DR.not 3 #[true, true, true, true, false, false, false, false, false, false, false, false, false, false]; rfl; rfl; rfl; rfl; rfl; kernel_rfl; rfl)
      (apply DR.not 4 #[true, true, true, true, true, false, false, false, false, false, false, false, false, false]; rfl; rfl; rfl; rfl; rfl; kernel_rfl; rfl)
      (apply DR.not 5 #[true, true, true, true, true, true, false, false, false, false, false, false, false, false]; rfl; rfl; rfl; rfl; rfl; kernel_rfl; rfl)
      (apply DR.not 6 #[true, true, true, true, true, true, true, false, false, false, false, false, false, false]; rfl; rfl; rfl; rfl; rfl; kernel_rfl; rfl)
      (apply DR.not 7 #[true, true, true, true, true, true, true, true, false, false, false, false, false, false]; rfl; rfl; rfl; rfl; rfl; kernel_rfl; rfl)
      (apply DR.not 8 #[true, true, true, true, true, true, true, true, true, false, false, false, false, false]; rfl; rfl; rfl; rfl; rfl; kernel_rfl; rfl)
      (apply DR.not 9 #[true, true, true, true, true, true, true, true, true, true, false, false, false, false]; rfl; rfl; rfl; rfl; rfl; kernel_rfl; rfl)
      (apply DR.not 10 #[true, true, true, true, true, true, true, true, true, true, true, false, false, false]; rfl; rfl; rfl; rfl; rfl; kernel_rfl; rfl)
      (apply DR.not 11 #[true, true, true, true, true, true, true, true, true, true, true, true, false, false]; rfl; rfl; rfl; rfl; rfl; kernel_rfl; rfl)
      (apply DR.not 12 #[true, true, true, true, true, true, true, true, true, true, true, true, true, false]; rfl; rfl; rfl; rfl; rfl; kernel_rfl; rfl)
      (apply DR.pure 13 #[true, true, true, true, true, true, true, true, true, true, true, true, true, true]; rfl; kernel_rfl; (first | (apply Y_pick_t; rfl; rfl) | (apply Y_pick_f; rfl; rfl)); rfl)
      refine DR.done (by kernel_rfl) ?_
      refine J.at (C := Cls _ _ _) ?_ hS
      skip
      apply J.cond_f rfl
      repeat (first | (apply J.exit; rfl))
      refine J.imp (J.weak (hj 0) ⟨rfl, rfl, rfl, rfl, trivial⟩) fun w' hw' => ⟨hE.trans (hst hw' (by simp) (by simp) (by simp)), hB4.ext0 (hst hw' (by simp) (by simp) (by simp)), hB3.ext0 (hst hw' (by simp) (by simp) (by simp)), hB2.ext0 (hst hw' (by simp) (by simp) (by simp)), b23, b24, b34, b2l, b3l, b4l, hq, hgt, fun y h => absurd h (Nat.lt_irrefl _)⟩
    · obtain ⟨z, hx⟩ : ∃ z, zs[q - 1]? = some z := ⟨_, List.getElem?_eq_getElem (by omega)⟩
      obtain ⟨ad, _, e1⟩ := h.base (by omega) (by omega)
      cases e1
      obtain ⟨wz, hwz, _, _, _⟩ := MsgC.open_ (h.el z (List.mem_of_getElem? hx))
      have l2 := (h.ldsF (P := Try.prog) (t := 3) hx (j := 1) (v := .int .i64 z.2.lane) (by rw [hwz]; rfl)).ext0 hE
      have hq1 : ((q : Int) - 1).toNat = q - 1 := by omega
      rw [← hq1] at l2
      unfold maxLen at hmx
      repeat (first | refine J.seq ?_)
      refine J.draw (S := Cls _ _ _) [] #[false, false, false, false, false, false, false, false, false, false, false, false, false, false] rfl rfl (fun w hw => hw.drew) (fun w hS => ?_)
      (apply DR.pure 0 #[true, false, false, false, false, false, false, false, false, false, false, false, false, false]; rfl; kernel_rfl; (apply Y_move; rfl); rfl)
      (apply DR.take 1 #[true, true, false, false, false, false, false, false, false, false, false, false, false, false]; rfl; kernel_rfl; exact Y_gtr_t rfl rfl (by omega); rfl; exact hS)
      (apply DR.pure 2 #[true, true, true, false, false, false, false, false, false, false, false, false, false, false]; rfl; kernel_rfl; (apply Y_move; rfl); rfl)
      (apply DR.pureG 3 #[true, true, true, true, false, false, false, false, false, false, false, false, false, false]; rfl; rfl; rfl; rfl; kernel_rfl; (apply Y_fieldAddr; rfl; rfl); rfl)
      (apply DR.takeG 4 #[true, true, true, true, true, false, false, false, false, false, false, false, false, false]; rfl; rfl; rfl; rfl; kernel_rfl; (first | (apply Y_load1 0; rfl; rfl; rfl; exact inferInstance) | (apply Y_load1 1; rfl; rfl; rfl; exact inferInstance) | (apply Y_load1 2; rfl; rfl; rfl; exact inferInstance) | (apply Y_load1 3; rfl; rfl; rfl; exact inferInstance) | (apply Y_loadW 0; rfl; rfl; exact inferInstance; rfl) | (apply Y_loadW 1; rfl; rfl; exact inferInstance; rfl) | (apply Y_loadW 2; rfl; rfl; exact inferInstance; rfl) | (apply Y_loadW 3; rfl; rfl; exact inferInstance; rfl)); rfl; exact hS)
      (apply DR.pureG 5 #[true, true, true, true, true, true, false, false, false, false, false, false, false, false]; rfl; rfl; rfl; rfl; kernel_rfl; (apply Y_move; rfl); rfl)
      (apply DR.pureG 6 #[true, true, true, true, true, true, true, false, false, false, false, false, false, false]; rfl; rfl; rfl; rfl; kernel_rfl; (apply Y_sub; rfl; rfl; omega); rfl)
      (apply DR.pureG 7 #[true, true, true, true, true, true, true, true, false, false, false, false, false, false]; rfl; rfl; rfl; rfl; kernel_rfl; (apply Y_indexAddr; rfl; rfl; omega); rfl)
      (apply DR.takeG 8 #[true, true, true, true, true, true, true, true, true, false, false, false, false, false]; rfl; rfl; rfl; rfl; kernel_rfl; exact Y_fieldAddrG rfl; rfl; exact hS)
      (apply DR.takeG 9 #[true, true, true, true, true, true, true, true, true, true, false, false, false, false]; rfl; rfl; rfl; rfl; kernel_rfl; exact Y_loadP rfl fun w hw => l2.at_ (hst hw (by simp) (by simp) (by simp)) fun _ _ _ h => h; rfl; exact hS)
      (apply DR.pureG 10 #[true, true, true, true, true, true, true, true, true, true, true, false, false, false]; rfl; rfl; rfl; rfl; kernel_rfl; (apply Y_fieldAddr; rfl; rfl); rfl)
      (apply DR.takeG 11 #[true, true, true, true, true, true, true, true, true, true, true, true, false, false]; rfl; rfl; rfl; rfl; kernel_rfl; (first | (apply Y_load1 0; rfl; rfl; rfl; exact inferInstance) | (apply Y_load1 1; rfl; rfl; rfl; exact inferInstance) | (apply Y_load1 2; rfl; rfl; rfl; exact inferInstance) | (apply Y_load1 3; rfl; rfl; rfl; exact inferInstance) | (apply Y_loadW 0; rfl; rfl; exact inferInstance; rfl) | (apply Y_loadW 1; rfl; rfl; exact inferInstance; rfl) | (apply Y_loadW 2; rfl; rfl; exact inferInstance; rfl) | (apply Y_loadW 3; rfl; rfl; exact inferInstance; rfl)); rfl; exact hS)
      (apply DR.pureG 12 #[true, true, true, true, true, true, true, true, true, true, true, true, true, false]; rfl; rfl; rfl; rfl; kernel_rfl; (apply Y_gtr; rfl; rfl); rfl)
      (apply DR.take 13 #[true, true, true, true, true, true, true, true, true, true, true, true, true, true]; rfl; kernel_rfl; exact Y_pick_t rfl rfl; rfl; exact hS)
      refine DR.done (by kernel_rfl) ?_
      refine J.at (C := Cls _ _ _) ?_ hS
      refine J.cond_d rfl (fun hlt => ?_) (fun hlt => ?_)
      · repeat (first | (apply JL.y; (first | (apply Y_move; rfl) | (apply Y_assign; rfl) | (apply Y_sub; rfl; rfl; omega)); rfl) | refine J.region ?_ | refine JL.nil ?_ | refine J.skip ?_ | refine J.block ?_ | refine J.inBlock ?_)
        refine J.intro fun w4 hw4 => ?_
        have hE4 := hst hw4 (by simp) (by simp) (by simp)
        refine ih (q - 1) (by omega) _ _ w4 ?_ ⟨q - 1, by omega, rfl, hE.trans hE4, hB4.ext0 hE4, hB3.ext0 hE4, hB2.ext0 hE4, fun j y hj hy => ?_, rfl⟩
        · exact ⟨rfl, rfl, rfl, by simp [Env.get]; omega, trivial⟩
        · rcases Nat.lt_or_ge j q with h1 | h1
          · have : j = q - 1 := by omega
            subst this
            rw [map_snoc hx] at hy
            cases hy
            exact hlt
          · exact hgt j y h1 hy
      · repeat (first | (apply J.exit; rfl))
        refine J.imp (J.weak (hj q) ⟨rfl, rfl, rfl, rfl, trivial⟩) fun w' hw' => ⟨hE.trans (hst hw' (by simp) (by simp) (by simp)), hB4.ext0 (hst hw' (by simp) (by simp) (by simp)), hB3.ext0 (hst hw' (by simp) (by simp) (by simp)), hB2.ext0 (hst hw' (by simp) (by simp) (by simp)), b23, b24, b34, b2l, b3l, b4l, hq, hgt, fun y _ hy => ?_⟩
        rw [map_snoc hx] at hy
        cases hy
        omega
  simp only
  refine J.intro fun w1 ⟨hE, hB4, hB3, hB2, b23, b24, b34, b2l, b3l, b4l, hq, hgt, hle⟩ => J.at (C := Cls w1 (fun k => k = b4 ∨ k = b3 ∨ k = b2) [_, _, _]) ?_ (Cls.start3 hB4 hB3 hB2 b34 b24 b23)
  have hins := St.ins_at (x := m) hsrt (i := q) (by simpa using hq) hgt hle
  have hst : ∀ {H' : List Blk} {w' : World}, Cls w1 (fun k => k = b4 ∨ k = b3 ∨ k = b2) H' w' → (⟨b4, [.int .i64 0, .int .i64 0, .slice none 0 0], 28⟩ : Blk) ∈ H' → (⟨b3, msgC ws m, 33⟩ : Blk) ∈ H' → (⟨b2, [.int .i64 ln, .int .i64 pl, .slice A zs.length c], 28⟩ : Blk) ∈ H' → Ext No w1 w' := fun h h1 h2 h3 => h.still fun k hk => by
    rcases hk with rfl | rfl | rfl
    · exact ⟨_, h1, rfl, hB4⟩
    · exact ⟨_, h2, rfl, hB3⟩
    · exact ⟨_, h3, rfl, hB2⟩
  repeat (first | (apply JL.y; (first | (apply Y_move; rfl) | (apply Y_assign; rfl) | (apply Y_fieldAddr; rfl; rfl) | (apply Y_load1 2; rfl; rfl; rfl; exact inferInstance)); rfl) | refine J.seq ?_ | refine J.region ?_ | refine JL.nil ?_)
  apply JL.y (Y_slice_h rfl rfl (by omega)) rfl
  rw [Int.toNat_natCast]
  refine JL.intro fun w2 hw2 => ?_
  have hE2 : Ext No w w2 := hE.trans (hst hw2 (by simp) (by simp) (by simp))
  have h2 := h.ext0 hE2
  have hB4 := hw2.has _ (.head _)
  have hB3 := hw2.has _ (.tail _ (.head _))
  have hB2 := hw2.has _ (.tail _ (.tail _ (.head _)))
  have u4 := hB4.lt
  have u3 := hB3.lt
  have u2 := hB2.lt
  simp only at u4 u3 u2
  refine GL.appendR rfl rfl (by decide) (Row.nil w2 _ _) (h2.take hq).row.now (MsgC.ones (ok := ok) fun z hz => h2.el z (List.mem_of_mem_take hz)) (by simp; omega) (by decide) rfl fun v3 w3 hrow3 hapd3 => ?_
  have hE23 : Ext No w2 w3 := hapd3.ext.mono fun k _ hk => by simp [Value.ownBlock] at hk
  have hL3 : Lk ok w w3 v3 ([] ++ zs.take q) := (Lk.nil ok w w2).apps hrow3 hapd3 (fun y hy => (h.el y (List.mem_of_mem_take hy)).old hE2 fun _ _ _ h => h) hE2.size
  have hE3 := hE2.trans hE23
  have hv3 : ∀ b, b < w2.heap.size → v3.ownBlock ≠ some b := fun b hb => apd_ne hapd3 hb (by simp [Value.ownBlock])
  refine GL.of_JL (C := Cls w3 (fun k => k = b4 ∨ k = b3 ∨ k = b2) [_, _, _]) (Cls.start3 (hB4.ext0 hE23) (hB3.ext0 hE23) (hB2.ext0 hE23) b34 b24 b23) ?_
  unfold msgC
  repeat (first | (apply JL.y; (first | (apply Y_move; rfl) | (apply Y_assign; rfl) | (apply Y_loadW 1; rfl; rfl; exact inferInstance; rfl)); rfl) | refine J.seq ?_ | refine J.region ?_ | refine JL.nil ?_ | (apply JL.bslice1; rfl; rfl; rfl; rfl; rfl; rfl; intro _))
  refine JL.intro fun w4 hw4 => ?_
  have hE34 : Ext No w3 w4 := hw4.still fun k hk => by
    rcases hk with rfl | rfl | rfl
    · exact ⟨_, .tail _ (.head _), rfl, hB4.ext0 hE23⟩
    · exact ⟨_, .tail _ (.tail _ (.head _)), rfl, hB3.ext0 hE23⟩
    · exact ⟨_, .tail _ (.tail _ (.tail _ (.head _))), rfl, hB2.ext0 hE23⟩
  have hL4 := hL3.ext0 hE34
  have hE4 := hE3.trans hE34
  have hB4 := hw4.has _ (.tail _ (.head _))
  have hB3 := hw4.has _ (.tail _ (.tail _ (.head _)))
  have hB2 := hw4.has _ (.tail _ (.tail _ (.tail _ (.head _))))
  have s34 := hE34.size
  have s23 := hE23.size
  refine GL.append1 rfl rfl hL4.own.row (hw4.has _ (.head _)) rfl rfl (msgC_one ho) (by simp; omega) rfl rfl fun v5 w5 hrow5 hapd5 => ?_
  have hL5 := hL4.app hrow5 hapd5 ((MsgC.mk hm hl8).old hE4 fun _ _ _ h => h) hE4.size
  have hv5 : ∀ b, b < w2.heap.size → v5.ownBlock ≠ some b := fun b hb => apd_ne hapd5 (by omega) (hv3 b hb)
  have hE5 : Ext No w w5 := hE4.then hapd5.ext fun k hk hv => by have := hL4.new k hv; omega
  have s45 := hapd5.ext.size
  have hB4 := hB4.keep hapd5.ext (hv3 _ u4)
  have hB3 := hB3.keep hapd5.ext (hv3 _ u3)
  have hB2 := hB2.keep hapd5.ext (hv3 _ u2)
  refine GL.of_JL (C := Cls w5 (fun k => k = b4 ∨ k = b3 ∨ k = b2) [_, _, _]) (Cls.start3 hB4 hB3 hB2 b34 b24 b23) ?_
  repeat (first | (apply JL.y; (first | (apply Y_move; rfl) | (apply Y_assign; rfl) | (apply Y_fieldAddr; rfl; rfl) | (apply Y_load1 2; rfl; rfl; rfl; exact inferInstance)); rfl) | refine J.seq ?_ | refine J.region ?_ | refine JL.nil ?_)
  apply JL.y (Y_slice_l rfl rfl (by omega)) rfl
  rw [Int.toNat_natCast]
  refine JL.intro fun w6 hw6 => ?_
  have hE56 : Ext No w5 w6 := hw6.still fun k hk => by
    rcases hk with rfl | rfl | rfl
    · exact ⟨_, .head _, rfl, hB4⟩
    · exact ⟨_, .tail _ (.head _), rfl, hB3⟩
    · exact ⟨_, .tail _ (.tail _ (.head _)), rfl, hB2⟩
  have hL6 := hL5.ext0 hE56
  have hE6 := hE5.trans hE56
  have h6 := h.ext0 hE6
  have s56 := hE56.size
  have hB4 := hw6.has _ (.head _)
  have hB3 := hw6.has _ (.tail _ (.head _))
  have hB2 := hw6.has _ (.tail _ (.tail _ (.head _)))
  refine GL.appendR rfl rfl (by decide) hL6.own.row (h6.drop hq).row.now (MsgC.ones (ok := ok) fun z hz => h6.el z (List.mem_of_mem_drop hz)) (by simp; omega) (by decide) rfl fun v7 w7 hrow7 hapd7 => ?_
  have hL7 := hL6.apps hrow7 hapd7 (fun y hy => (h.el y (List.mem_of_mem_drop hy)).old hE6 fun _ _ _ h => h) hE6.size
  have hv7 : ∀ b, b < w2.heap.size → v7.ownBlock ≠ some b := fun b hb => apd_ne hapd7 (by omega) (hv5 b hb)
  have hE7 : Ext No w w7 := hE6.then hapd7.ext fun k hk hv => by have := hL6.new k hv; omega
  have hB4 := hB4.keep hapd7.ext (hv5 _ u4)
  have hB3 := hB3.keep hapd7.ext (hv5 _ u3)
  have hB2 := hB2.keep hapd7.ext (hv5 _ u2)
  have hv7o := hL7.own.row.one
  refine GL.of_JL (C := Cls w7 (fun k => k = b4 ∨ k = b3 ∨ k = b2) [_, _, _]) (Cls.start3 hB4 hB3 hB2 b34 b24 b23) ?_
  repeat (first | (apply JL.y; (first | (apply Y_assign; rfl) | (apply Y_fieldAddr; rfl; rfl) | (apply Y_loadW 2; rfl; rfl; exact inferInstance; rfl)); rfl) | refine J.seq ?_ | refine J.region ?_ | refine JL.nil ?_ | (apply JL.store; (first | (apply St_1 2; rfl; rfl; exact inferInstance; (first | rfl | assumption); rfl; rfl; (first | (focus (simp only [List.set_cons_zero, List.set_cons_succ]; done)) | (simp only [List.set_cons_zero, List.set_cons_succ]; rfl))) | (apply St_W 0; rfl; rfl; rfl; exact inferInstance; rfl; rfl; (first | (focus (simp [Value.oneCell']; done)) | (simp [Value.oneCell']; assumption) | (simp [Value.oneCell']; exact ⟨by assumption, by assumption⟩)); (first | (focus (simp only [List.set_cons_zero]; done)) | (simp only [List.set_cons_zero]; rfl))))))
  refine J.ret2 Try.func29 Try.results29 (RV.W 0 rfl rfl rfl) (RV.tm rfl) fun w' hw' => ?_
  have hx := hw'.ext
  have hD : ∀ k, (k = b4 ∨ k = b3 ∨ k = b2) → w.heap.size ≤ k ∧ k < w2.heap.size := fun k hk => by omega
  refine ⟨_, rfl, hE7.then hx fun k hk h => by have := hD k h; omega, v7, _, rfl, ((hL7.ext hx fun k _ h => ⟨(hD k h).1, hv7 k (hD k h).2⟩).rd).mono fun k _ hk => hk.imp (·.1) id, ?_⟩
  simp only [List.map_append, List.map_cons, List.map_take, List.map_drop, hins, List.nil_append, List.append_assoc, List.singleton_append]
end Go.Proofs.Ytmkpbbdocndfbaa
