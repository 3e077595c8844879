/- law 12: GateRefuses, the walk. -/
import Derived.Test.YtmkpbbdocndfbaaURefuse
namespace Go.Proofs.Ytmkpbbdocndfbaa
open Go.RowKit Go.Proofs
attribute [local irreducible] Yl JL J G GL GA GQ DR DRA

theorem msg_one {v : Value} {m : Msg} (h : v.oneCell' = true) : ∀ u ∈ msgC v m, u.oneCell' = true := by
  intro u hu
  simp only [msgC, List.mem_cons, List.not_mem_nil, or_false] at hu
  rcases hu with rfl | rfl | rfl | rfl | rfl
  · exact h
  · rfl
  · rfl
  · rfl
  · rfl
set_option maxHeartbeats 4000000 in
theorem gateRefuses_walk {W : World} {va : Value} {za : List (List Value × St12)} (k : Ch) (ha : Rd 6 St12C W All va za) :
    Calls Try.prog 10 #[.agg (chC k).toArray, va] W fun e w' => e = .returned (.bool true) ∧ Ext No W w' := by
  have hg := goodC_in k
  obtain ⟨kg, hkg⟩ : ∃ kg, kg = goodC k := ⟨_, rfl⟩
  have hgood : ∀ w, Calls Try.prog 49 #[.agg (chC k).toArray] w fun e w' => e = .returned (.agg (chC kg).toArray) ∧ Ext No w w' := by rw [hkg]; exact good12_spec k
  rw [← hkg] at hg
  obtain ⟨g1, g2, g3, g4, g5, g6, g7, g8⟩ := hg
  clear hkg
  have cln : cl 1 3 kg.lanes = kg.lanes := by unfold cl; omega
  have cld : cl 1 8 kg.depth = kg.depth := by unfold cl; omega
  obtain ⟨A, c, rfl, hca, hma⟩ := ha.slice
  refine Calls.of_G2 Try.func10 rfl Try.ntmps10 rfl ?_
  refine J.at (C := Cls W No []) ?_ (Cls.start _ _)
  unfold chC
  repeat (first | (apply JL.y; (first | (apply Y_assign; rfl) | (apply Y_loadW 0; rfl; rfl; exact inferInstance; rfl) | (apply Y_not; rfl)); rfl) | refine J.seq ?_ | refine J.region ?_ | refine JL.nil ?_ | (apply JL.callq; rfl; rfl; (intro wc hwc; first | exact lives12_spec _ | exact hgood _)) | (apply JL.box; rfl; rfl; rfl; intro _) | refine J.skip ?_ | refine J.cond_f rfl ?_)
  unfold chC
  skip
  rename_i b2
  refine JL.call _ rfl rfl (fun w1 hw1 => gNew_spec kg w1) fun w1 r w2 hw1 ⟨g, gl, gb, hr, hE2, hG2, hgl, hll, hbl⟩ => ?_
  subst hr
  obtain ⟨hS2, hN2⟩ := GSt.start hw1.ext hE2 hG2 hgl hll hbl
  refine GL.of_JL (C := Cls w2 No []) (Cls.start _ _) ?_
  repeat (first | (apply JL.y; (first | (apply Y_move; rfl) | (apply Y_assign; rfl)); rfl) | refine J.seq ?_ | refine J.region ?_ | refine JL.nil ?_ | (apply JL.callq; rfl; rfl; (intro wc hwc; first | exact early12_spec hca _)) | refine J.block ?_)
  obtain ⟨n, hn⟩ : ∃ n, n = min za.length 80 := ⟨_, rfl⟩
  have hnl : n ≤ za.length := by omega
  have hs : Rd 6 St12C W All (.slice A n c) (za.take n) := ha.take hnl
  have htl : (za.take n).length = n := by rw [List.length_take]; omega
  obtain ⟨steps, hst⟩ : ∃ s, s = za.take n := ⟨_, rfl⟩
  rw [← hst] at hs htl
  rw [← hn]
  refine J.intro fun wl hwl => G.loop (Inv := fun mm e wl => ∃ (i : Nat) (R t rd seq : Int) (ms : List Msg) (Ol E : Nat → Prop), i ≤ n ∧ mm = n - i ∧ (0 ≤ R ∧ R ≤ 2 * i) ∧ (0 ≤ seq ∧ seq ≤ i) ∧ GSt W wl g gl gb Ol E kg ms t rd seq ∧ e = [(1, .slice A n c), (2, .pointer (some ⟨b2, 0, none⟩)), (5, .pointer (some ⟨g, 0, none⟩)), (6, .int .i64 R), (7, .int .i64 i)])
    _ _ ⟨0, 0, _, _, _, _, _, _, Nat.zero_le _, rfl, by simp, by simp, hS2.ext0 hwl.ext, rfl⟩ ⟨rfl, rfl, rfl, rfl, rfl, trivial⟩ ?_
  clear hS2 hG2 hN2
  rintro mm e w3 ⟨i, R, t, rd, seq, ms, Ol, E, hi, rfl, hR, hsq, hS3, rfl⟩ ih
  refine J.at (C := Cls w3 No []) ?_ (Cls.start _ _)
  repeat (first | (apply JL.y; (first | (apply Y_move; rfl) | (apply Y_len; rfl) | (apply Y_lss; rfl; rfl)); rfl) | refine J.seq ?_ | refine J.region ?_ | refine JL.nil ?_)
  refine J.cond_d rfl (fun hlt => ?_) (fun hlt => ?_)
  case refine_2 =>
    repeat (first | (apply JL.y; (apply Y_assign; rfl); rfl) | refine J.seq ?_ | refine J.region ?_ | refine JL.nil ?_ | (apply J.exit; rfl))
    exact J.ret1 Try.func10 Try.results10 (RV.tm rfl) fun w' hw' => ⟨rfl, hS3.x.trans hw'.ext⟩
  have hil : i < n := by omega
  obtain ⟨z, hx⟩ : ∃ z, steps[i]? = some z := ⟨_, List.getElem?_eq_getElem (by omega)⟩
  obtain ⟨ad, _, e1⟩ := hs.base (by omega) (by omega)
  simp only [Value.slice.injEq] at e1
  obtain ⟨rfl, _, _⟩ := e1
  have hs' : Rd 6 St12C W All (.slice (some ad) n c) steps := hs
  have l1 := ((hs'.lds (P := Try.prog) (t := 63) hx).ext0 hS3.x)
  obtain ⟨Aw, cw, hws, hwr⟩ := St12C.open_ (hs.el z (List.mem_of_getElem? hx))
  obtain ⟨zc, s⟩ := z
  simp only at hws hwr
  subst hws
  unfold maxLen at hma
  have hlt3 : ∀ q, GB g gb Ol q ∨ E q → q < w3.heap.size := fun q hq => hS3.lt hq
  repeat (first | refine J.skip ?_)
  refine J.seq ?_
  repeat (first | refine J.block ?_)
  refine J.seq ?_
  repeat (first | (apply JL.y; (apply Y_move; rfl); rfl) | refine J.region ?_)
  apply JL.y (Y_indexAddr rfl rfl (by omega)) rfl
  apply JL.y (Y_loadP rfl fun w' hw' => l1.at_ hw'.ext fun _ _ _ h => h) rfl
  unfold st12C
  repeat (first | refine JL.nil ?_ | (apply JL.alloc; rfl; rfl; intro _) | (apply JL.store; (apply St_W 0; rfl; rfl; rfl; exact inferInstance; rfl; rfl; (first | (focus (simp [Value.oneCell']; done)) | (simp [Value.oneCell']; assumption) | (simp [Value.oneCell']; exact ⟨by assumption, by assumption⟩)); (first | (focus (simp only [List.set_cons_zero]; done)) | (simp only [List.set_cons_zero]; rfl)))))
  rename_i b8
  refine J.seq ?_
  have hr1 := tmod_in s.round 3 (by decide)
  obtain ⟨dr, hdr⟩ : ∃ x, x = (IntKind.u64.wrap s.round).tmod 3 := ⟨_, rfl⟩
  rw [← hdr] at hr1
  repeat (first | (apply JL.y; (first | (apply Y_move; rfl) | (apply Y_fieldAddr; rfl; rfl) | (apply Y_load1 0; rfl; rfl; rfl; exact inferInstance)); rfl) | refine J.region ?_)
  apply JL.y (Y_conv rfl) rfl
  apply JL.y (Y_rem rfl rfl (by decide)) rfl
  rw [← hdr]
  repeat (first | (apply JL.y; (first | (apply Y_assign; rfl) | (apply Y_add; rfl; rfl; omega) | (apply Y_convI; rfl; omega)); rfl) | refine JL.nil ?_)
  refine J.seq ?_
  refine J.intro fun w4 hw4 => ?_
  have hB8 := hw4.has _ (.head _)
  have hS4 := hS3.ext0 hw4.ext
  have b8l : w3.heap.size ≤ b8 := hw4.fresh fun _ h => h.elim
  have hnb8 : ∀ q, GB g gb Ol q ∨ E q → ¬ q = b8 := fun q hq => by have := hlt3 q hq; omega
  have s3W := hS3.x.size
  have b8u := hB8.lt
  simp only at b8u
  refine J.at (C := Cls w4 (fun q => q = b8) [_]) ?_ (Cls.start1 hB8)
  refine J.joinP (α := (Nat → Prop) × (Nat → Prop) × List Msg) (fun q w' => GSt W w' g gl gb q.1 q.2.1 kg q.2.2 t rd seq ∧ BlkIn w' ⟨b8, st12C (.slice Aw s.ws.length cw) s, 63⟩ ∧ ∀ p, GB g gb q.1 p ∨ q.2.1 p → ¬ p = b8) (fun _ => [(1, .slice (some ad) n c), (2, .pointer (some ⟨b2, 0, none⟩)), (5, .pointer (some ⟨g, 0, none⟩)), (6, .int .i64 (R + dr)), (7, .int .i64 i), (8, .pointer (some ⟨b8, 0, none⟩))]) (fun k' hj => ?_) (fun q => ?_)
  · repeat (first | (apply JL.y; (first | (apply Y_loadW 0; rfl; rfl; exact inferInstance; rfl) | (apply Y_eql; rfl; rfl)); rfl) | refine J.seq ?_ | refine J.region ?_ | refine JL.nil ?_ | (apply JL.callq; rfl; rfl; (intro wc hwc; first | exact kind12_spec (.slice Aw s.ws.length cw) s _)))
    refine J.cond_d rfl (fun hk => ?_) (fun hk => ?_)
    · repeat (first | (apply JL.y; (apply Y_move; rfl); rfl) | refine J.region ?_)
      refine JL.call _ rfl rfl (fun w11 hw11 => gTake_spec (hS4.o.ext hw11.ext hnb8)) fun w11 r w12 hw11 ⟨v, hr, hF, hT⟩ => ?_
      subst hr
      have hS11 := hS4.ext hw11.ext (fun q hq => by omega) hnb8
      have hT' := hS11.o.lane hT
      obtain ⟨O3, E3, hS12, hkey3⟩ := hS11.to hT'
      have hD8 := (hw11.has _ (.head _)).keep hT'.1 fun h => hnb8 _ (.inl h) rfl
      have h811 := (hw11.has _ (.head _)).lt
      simp only at h811
      have hnb12 : ∀ q, GB g gb O3 q ∨ E3 q → ¬ q = b8 := fun q hq h => (hkey3 q hq).elim (fun h1 => hnb8 q h1 h) fun h1 => by omega
      refine GL.of_JL (C := Cls w12 (fun q => q = b8) [_]) (Cls.start1 hD8) ?_
      repeat (first | refine JL.nil ?_)
      exact J.imp (J.weak (hj (O3, E3, _)) ⟨rfl, rfl, rfl, rfl, rfl, rfl, trivial⟩) fun w' hw' => ⟨hS12.ext hw'.ext (fun q hq => by omega) hnb12, hw'.has _ (.head _), hnb12⟩
    · repeat (first | refine J.skip ?_)
      exact J.imp (J.weak (hj (Ol, E, ms)) ⟨rfl, rfl, rfl, rfl, rfl, rfl, trivial⟩) fun w' hw' => ⟨hS4.ext hw'.ext (fun q hq => by omega) hnb8, hw'.has _ (.head _), hnb8⟩
  clear hB8 hS4 hnb8 hw4 hS3 hlt3
  obtain ⟨Ol', E', ms'⟩ := q
  simp only
  refine J.intro fun w5 ⟨hS5, hB5, hnb5⟩ => ?_
  have b8u5 := hB5.lt
  simp only at b8u5
  have hbi := hS5.o.bi
  refine J.at (C := Cls w5 (fun q => q = b8) [_]) ?_ (Cls.start1 hB5)
  unfold st12C
  repeat (first | (apply JL.y; (apply Y_move; rfl); rfl) | refine J.seq ?_ | refine J.region ?_)
  refine JL.call _ rfl rfl (fun w6 hw6 => gAll_spec (hS5.o.ext hw6.ext hnb5)) fun w6 r1 w7 hw6 ⟨hE7, zs1, hN1, hz1⟩ => ?_
  have hS7 := (hS5.ext hw6.ext (fun q hq => by omega) hnb5).ext0 hE7
  have hB7 := (hw6.ext0 hE7).has _ (.head _)
  have s56 := hw6.ext.size
  have lt6 : ∀ q, GB g gb Ol' q → q < w6.heap.size := fun q hq => Nat.lt_of_lt_of_le (hS5.lt (.inl hq)) s56
  obtain ⟨A1, c1, hr1', hc1, hm1⟩ := hN1.own.slice
  subst hr1'
  refine GL.of_JL (C := Cls w7 (fun q => q = b8) [_]) (Cls.start1 hB7) ?_
  repeat (first | (apply JL.y; (apply Y_move; rfl); rfl))
  refine JL.call _ rfl rfl (fun w8 hw8 => gTokens_spec (hS7.o.ext hw8.ext hnb5) (R + dr)) fun w8 r w9 hw8 ⟨hr, hE9, hG9⟩ => ?_
  subst hr
  have hS8 := hS7.ext hw8.ext (fun q hq => by omega) hnb5
  have hB9 := (hw8.has _ (.head _)).keep hE9 fun h => hnb5 gb (.inl (.inr (.inl rfl))) h.symm
  have hS9 : GSt W w9 g gl gb Ol' E' kg ms' (bTok (cl 0 64 kg.rate) (cl 1 64 kg.cap) t rd (R + dr)) (bRnd rd (R + dr)) seq := ⟨hG9, hS8.x.then hE9 fun q h1 h2 => by have := hS8.new q (.inl (.inr (.inl h2))); omega, hS8.new⟩
  have b86 := (hw6.has _ (.head _)).lt
  simp only at b86
  have hN9 := (hN1.ext hw8.ext fun q _ hq => by omega).ext hE9 fun q _ hq => lt6 q (by subst hq; exact .inr (.inl rfl))
  refine GL.of_JL (C := Cls w9 (fun q => q = b8) [_]) (Cls.start1 hB9) ?_
  repeat (first | (apply JL.y; (first | (apply Y_move; rfl) | (apply Y_assign; rfl)); rfl) | refine J.seq ?_ | refine JL.nil ?_ | (apply JL.callq; rfl; rfl; (intro wc hwc; first | exact gSeq_spec (hS9.o.ext hwc.ext hnb5))))
  obtain ⟨tk, htk⟩ : ∃ x, x = bTok (cl 0 64 kg.rate) (cl 1 64 kg.cap) t rd (R + dr) := ⟨_, rfl⟩
  have hok : bTok (cl 0 64 kg.rate) (cl 1 64 kg.cap) tk (bRnd rd (R + dr)) (R + dr) = tk := by rw [htk]; exact tok_again _ _ _ _ _ hbi
  have htk2 := hbi.tok (R + dr)
  have hc64 := hbi.hc
  rw [← htk] at hS9 htk2 ⊢
  obtain ⟨rd9, hrd9⟩ : ∃ x, x = bRnd rd (R + dr) := ⟨_, rfl⟩
  rw [← hrd9] at hS9 hok
  obtain ⟨o, ho⟩ : ∃ o, o = offR kg ms' tk rd9 seq s.mode s.lane (s.ws.take 8) s.n (R + dr) := ⟨_, rfl⟩
  have h8 : Foot (fun w => RInts w (.slice Aw (s.ws.take 8).length cw) (s.ws.take 8)) W (fun q => q < W.heap.size) := (hwr.imp fun w hw => hw.cut8).mono fun k hk _ => hk
  have b8u9 := hB9.lt
  simp only at b8u9
  have hXS : ∀ {w' : World}, Ext (fun q => q = b8 ∨ GB g gb Ol' q) w9 w' → Ext No W w' := fun h => hS9.x.then h fun q h1 h2 => by
    rcases h2 with h2 | h2
    · omega
    · have := hS9.new q (.inl h2); omega
  refine J.drawC (S := Cls w9 (fun q => q = b8 ∨ GB g gb Ol' q) [_]) [15] #[false, false, false, false, false, false, false, false, false, false, false, false, false, false, false, false, false] rfl rfl (fun w hw => ⟨hw.drew.ext.mono fun _ _ h => .inl h, hw.drew.has, hw.drew.apart, fun x hx => (hw.drew.mine x hx).imp .inl id⟩) (fun w hC0 hS => ?_)
  have hC := hC0.drew
  generalize w.drew = wd at hS hC ⊢
  (apply DR.pure 0 #[true, false, false, false, false, false, false, false, false, false, false, false, false, false, false, false, false]; rfl; kernel_rfl; (apply Y_move; rfl); rfl)
  (apply DR.pure 1 #[true, true, false, false, false, false, false, false, false, false, false, false, false, false, false, false, false]; rfl; kernel_rfl; (apply Y_fieldAddr; rfl; rfl); rfl)
  (apply DR.take 2 #[true, true, true, false, false, false, false, false, false, false, false, false, false, false, false, false, false]; rfl; kernel_rfl; (first | (apply Y_load1 0; rfl; rfl; rfl; exact inferInstance) | (apply Y_load1 1; rfl; rfl; rfl; exact inferInstance) | (apply Y_load1 2; rfl; rfl; rfl; exact inferInstance) | (apply Y_load1 3; rfl; rfl; rfl; exact inferInstance) | (apply Y_loadW 0; rfl; rfl; exact inferInstance; rfl) | (apply Y_loadW 1; rfl; rfl; exact inferInstance; rfl) | (apply Y_loadW 2; rfl; rfl; exact inferInstance; rfl) | (apply Y_loadW 3; rfl; rfl; exact inferInstance; rfl)); rfl; exact hS)
  (apply DR.pure 3 #[true, true, true, true, false, false, false, false, false, false, false, false, false, false, false, false, false]; rfl; kernel_rfl; (apply Y_fieldAddr; rfl; rfl); rfl)
  (apply DR.take 4 #[true, true, true, true, true, false, false, false, false, false, false, false, false, false, false, false, false]; rfl; kernel_rfl; (first | (apply Y_load1 0; rfl; rfl; rfl; exact inferInstance) | (apply Y_load1 1; rfl; rfl; rfl; exact inferInstance) | (apply Y_load1 2; rfl; rfl; rfl; exact inferInstance) | (apply Y_load1 3; rfl; rfl; rfl; exact inferInstance) | (apply Y_loadW 0; rfl; rfl; exact inferInstance; rfl) | (apply Y_loadW 1; rfl; rfl; exact inferInstance; rfl) | (apply Y_loadW 2; rfl; rfl; exact inferInstance; rfl) | (apply Y_loadW 3; rfl; rfl; exact inferInstance; rfl)); rfl; exact hS)
  (apply DR.take 5 #[true, true, true, true, true, true, false, false, false, false, false, false, false, false, false, false, false]; rfl; kernel_rfl; (first | (apply Y_load1 0; rfl; rfl; rfl; exact inferInstance) | (apply Y_load1 1; rfl; rfl; rfl; exact inferInstance) | (apply Y_load1 2; rfl; rfl; rfl; exact inferInstance) | (apply Y_load1 3; rfl; rfl; rfl; exact inferInstance) | (apply Y_loadW 0; rfl; rfl; exact inferInstance; rfl) | (apply Y_loadW 1; rfl; rfl; exact inferInstance; rfl) | (apply Y_loadW 2; rfl; rfl; exact inferInstance; rfl) | (apply Y_loadW 3; rfl; rfl; exact inferInstance; rfl)); rfl; exact hS)
  (apply DR.pure 7 #[true, true, true, true, true, true, false, true, false, false, false, false, false, false, false, false, false]; rfl; kernel_rfl; (apply Y_fieldAddr; rfl; rfl); rfl)
  (apply DR.take 8 #[true, true, true, true, true, true, false, true, true, false, false, false, false, false, false, false, false]; rfl; kernel_rfl; (first | (apply Y_load1 0; rfl; rfl; rfl; exact inferInstance) | (apply Y_load1 1; rfl; rfl; rfl; exact inferInstance) | (apply Y_load1 2; rfl; rfl; rfl; exact inferInstance) | (apply Y_load1 3; rfl; rfl; rfl; exact inferInstance) | (apply Y_loadW 0; rfl; rfl; exact inferInstance; rfl) | (apply Y_loadW 1; rfl; rfl; exact inferInstance; rfl) | (apply Y_loadW 2; rfl; rfl; exact inferInstance; rfl) | (apply Y_loadW 3; rfl; rfl; exact inferInstance; rfl)); rfl; exact hS)
  (apply DR.pure 9 #[true, true, true, true, true, true, false, true, true, true, false, false, false, false, false, false, false]; rfl; kernel_rfl; (apply Y_move; rfl); rfl)
  refine DRA.go (l' := #[true, true, true, true, true, true, false, true, true, true, false, false, false, false, true, false, false]) (w0 := w9) (d := 12) (cs := [.slice none 0 0, .int .i64 0, .int .i64 0, .int .i64 0, .int .i64 0]) (t := 33) (U := No) ?_
  have hSd := hS9.ext hC.ext (fun q hq => by omega) hnb5
  refine DRA.callq 14 6 #[true, true, true, true, true, true, true, true, true, true, false, false, false, false, false, false, false] #[true, true, true, true, true, true, true, true, true, true, false, false, false, false, true, false, false] rfl rfl (by kernel_rfl) (by kernel_rfl) rfl rfl rfl rfl rfl rfl rfl inferInstance rfl hS (fun _ _ h he => h.ext0 he) (fun _ h => h.ext.size) (fun _ h => h.elim) (fun w10 hE10 hS10 => words12_spec (hwr.ext0 (hXS hS10.ext))) (fun w10 hE10 hS hU => ?_)
  refine DRA.call 14 10 #[true, true, true, true, true, true, true, true, true, true, true, false, false, false, false, false, false] #[true, true, true, true, true, true, true, true, true, true, true, false, false, false, true, false, false] (fun v' N w' => ∃ vm Ol2 E2, v' = .tuple #[.agg (msgC vm o.m).toArray, .int .i64 o.e] ∧ vm.oneCell' = true ∧ (∃ A c, vm = .slice A o.m.words.length c) ∧ GSt W w' g gl gb Ol2 E2 kg o.ms o.t o.rd o.seq ∧ ∀ q, GB g gb Ol2 q ∨ E2 q → (GB g gb Ol' q ∨ E' q) ∨ (N q ∧ w9.heap.size ≤ q)) (GB g gb Ol') rfl rfl (by kernel_rfl) (by kernel_rfl) rfl rfl rfl rfl rfl rfl rfl inferInstance rfl hS (fun _ _ h he => h.ext0 he) (fun _ h => h.ext.size) (fun q hq => hS9.lt (.inl hq)) hU (fun w11 hE11 hS11 => ?_) (fun v' N w12 ⟨vm, Ol2, E2, hv, hvo, ⟨A2, c2, hv2⟩, hS12, hk12⟩ hS hN hU => ?_)
  · have hSe := (hSd.ext0 hE10).ext0 hE11
    refine (gOffer_spec hSe.o (by omega) (h8.ext0 (hXS hS11.ext)) (fun q h1 h2 => by have := hSe.new q (.inl h2); omega) (by rw [List.length_take]; omega) s.mode s.lane s.n (R + dr)).mono fun e w' ⟨r, h1, vm, h2, hE, M, O2, E2, hF, hM, hG, hO, hE'⟩ => ?_
    rw [← ho] at h2 hF hG
    obtain ⟨wsm, rfl, hFw, _, how⟩ := RMsg.open_ hF
    obtain ⟨A2, c2, hv2, _, _⟩ := hFw.now.slice
    obtain ⟨O3, E3, h3, h4⟩ := hSe.to ⟨hE, O2, E2, hG, hO, hE'⟩
    exact ⟨r, fun q => w11.heap.size ≤ q ∧ q < w'.heap.size, h1, ⟨wsm, O3, E3, h2, how, ⟨A2, c2, hv2⟩, h3, fun q hq => (h4 q hq).imp id fun h => ⟨⟨h, h3.lt hq⟩, Nat.le_trans hS11.ext.size h⟩⟩, fun q h => h, hE, hS11.extA hE (fun q _ h => .inr h) fun x hx ho => by simp only [List.mem_cons, List.not_mem_nil, or_false] at hx; subst hx; exact hnb5 _ (.inl ho) rfl⟩
  subst hv
  (apply DRA.pure 11 #[true, true, true, true, true, true, true, true, true, true, true, true, false, false, false, false, false] #[true, true, true, true, true, true, true, true, true, true, true, true, false, false, true, false, false]; rfl; kernel_rfl; kernel_rfl; (apply Y_move; rfl); rfl; rfl; rfl)
  (apply DRA.pure 12 #[true, true, true, true, true, true, true, true, true, true, true, true, true, false, false, false, false] #[true, true, true, true, true, true, true, true, true, true, true, true, true, false, true, false, false]; rfl; kernel_rfl; kernel_rfl; (apply Y_extract; rfl; rfl); rfl; rfl; rfl)
  (apply DRA.pure 13 #[true, true, true, true, true, true, true, true, true, true, true, true, true, true, false, false, false] #[true, true, true, true, true, true, true, true, true, true, true, true, true, true, true, false, false]; rfl; kernel_rfl; kernel_rfl; (apply Y_extract; rfl; rfl); rfl; rfl; rfl)
  refine DRA.end_ 14 rfl (by kernel_rfl) rfl rfl inferInstance rfl hS (fun _ _ h he => h.ext0 he) (fun _ h => h.ext.size) hU (fun b12 w13 hE13 hS b12l hb12 hB12 => ?_)
  have hB8' := hS.has _ (.head _)
  have hS13 := hS12.ext0 hE13
  have hX13 := hS.ext
  (apply DR.store 15 #[true, true, true, true, true, true, true, true, true, true, true, true, true, true, true, true, false]; rfl; kernel_rfl; rfl; exact (Cls.start2 hB12 hB8' (by simp only; omega)); (apply St_W 0; rfl; rfl; rfl; exact inferInstance; rfl; rfl; exact msg_one hvo; rfl); intro w14 hC14)
  (apply DR.pure 16 #[true, true, true, true, true, true, true, true, true, true, true, true, true, true, true, true, true]; rfl; kernel_rfl; (apply Y_assign; rfl); rfl)
  refine DR.done (by kernel_rfl) ?_
  refine J.at (C := Cls _ _ _) ?_ hC14
  have hR9 := hN9.reads.mono (ok' := fun k => w6.heap.size ≤ k ∧ k < w9.heap.size) fun k hk h => ⟨h, hk⟩
  have hR13 := hR9.ext hX13 fun k _ h1 h2 => by
    rcases h2 with h2 | h2
    · omega
    · have := lt6 k h2; omega
  have hnb13 : ∀ q, GB g gb Ol2 q ∨ E2 q → ¬ (q = b12 ∨ q = b8) := fun q hq h => by
    rcases hk12 q hq with h1 | ⟨h1, h2⟩
    · have := hS9.lt h1
      rcases h with h | h
      · omega
      · exact hnb5 q h1 h
    · rcases h with h | h
      · exact hb12 (.inr (h ▸ h1))
      · omega
  have s9W := hS9.x.size
  refine J.intro fun w15 hw15 => ?_
  have hS15 := hS13.ext hw15.ext (fun q hq => by rcases hq with hq | hq <;> simp only at hq <;> omega) fun q hq h => hnb13 q hq h
  have hR15 := hR13.ext hw15.ext fun k _ h1 h2 => by rcases h2 with h2 | h2 <;> simp only at h2 <;> omega
  have hC12 : BlkIn w15 ⟨b12, msgC vm o.m, 33⟩ := hw15.has _ (.head _)
  have hC8 := hw15.has _ (.tail _ (.head _))
  have b128 : b8 ≠ b12 := by omega
  refine J.at (C := Cls w15 (fun q => q = b12 ∨ q = b8) [_, _]) ?_ (Cls.start2 hC12 hC8 b128)
  repeat (first | (apply JL.y; (apply Y_move; rfl); rfl) | refine J.seq ?_ | refine J.region ?_)
  refine JL.call _ rfl rfl (fun w16 hw16 => gAll_spec (hS15.o.ext hw16.ext hnb13)) fun w16 r2 w17 hw16 ⟨hE17, zs2, hN2, hz2⟩ => ?_
  have hD2 : ∀ q, (q = b12 ∨ q = b8) → W.heap.size ≤ q := fun q h => by omega
  have hS17 := (hS15.ext hw16.ext hD2 hnb13).ext0 hE17
  have hR17 := (hR15.ext hw16.ext fun k _ h1 h2 => by omega).ext0 hE17
  have hF12 := (hw16.ext0 hE17).has _ (.head _)
  have hF8 := (hw16.ext0 hE17).has _ (.tail _ (.head _))
  obtain ⟨A3, c3, hr3, hc3, hm3⟩ := hN2.own.slice
  subst hr3
  have st17 : ∀ {H' : List Blk} {w' : World}, Cls w17 (fun q => q = b12 ∨ q = b8) H' w' → (⟨b12, msgC vm o.m, 33⟩ : Blk) ∈ H' → (⟨b8, st12C (.slice Aw s.ws.length cw) s, 63⟩ : Blk) ∈ H' → Ext No w17 w' := fun h h1 h2 => h.still fun q hq => hq.elim (fun h => ⟨_, h1, h.symm, hF12⟩) fun h => ⟨_, h2, h.symm, hF8⟩
  have b12u := hF12.lt
  have b8u17 := hF8.lt
  simp only at b12u b8u17
  subst hv2
  have hbi9 := hS9.o.bi
  refine GL.of_JL (C := Cls w17 (fun q => q = b12 ∨ q = b8) [_, _]) (Cls.start2 hF12 hF8 b128) ?_
  unfold st12C msgC at st17
  unfold msgC
  repeat (first | (apply JL.y; (first | (apply Y_move; rfl) | (apply Y_assign; rfl) | (apply Y_neq; rfl; rfl)); rfl) | refine J.seq ?_ | refine J.region ?_ | refine JL.nil ?_)
  refine J.cond_d rfl (fun hne => ?_) (fun hne => ?_)
  · obtain ⟨h1, h2, h3, h4⟩ := offR_no (ms := ms') (seq := seq) (mode := s.mode) (lane := s.lane) (ws := s.ws.take 8) (now := s.n) (R := R + dr) hbi9 (by rw [← ho]; exact hne)
    rw [← ho] at h1 h2 h3 h4
    rw [hok] at h4
    have hzz : zs1.map (·.2) = zs2.map (·.2) := by rw [hz1, hz2, h2]
    rw [h1] at st17 ⊢
    rw [h3] at hS17
    repeat (first | (apply JL.y; (first | (apply Y_move; rfl) | (apply Y_not; rfl)); rfl) | refine J.seq ?_ | refine J.region ?_ | (apply JL.callq; rfl; rfl; (intro wc hwc; first | exact same_true (hR17.ext0 (st17 hwc (by simp) (by simp))) (hN2.reads.ext0 (st17 hwc (by simp) (by simp))) hzz)) | (apply JL.guard_yes; rfl; rfl; rfl))
    refine JL.call _ rfl rfl (fun w18 hw18 => gTokens_spec (hS17.o.ext hw18.ext hnb13) (R + dr)) fun w18 r w19 hw18 ⟨hr, hE19, hG19⟩ => ?_
    subst hr
    have hS18 := hS17.ext hw18.ext hD2 hnb13
    have hS19 : GSt W w19 g gl gb Ol2 E2 kg o.ms _ _ seq := ⟨hG19, hS18.x.then hE19 fun q h1 h2 => by have := hS18.new q (.inl (.inr (.inl h2))); omega, hS18.new⟩
    have hH12 := (hw18.has _ (.head _)).keep hE19 fun h => hnb13 gb (.inl (.inr (.inl rfl))) (.inl h.symm)
    have hH8 := (hw18.has _ (.tail _ (.head _))).keep hE19 fun h => hnb13 gb (.inl (.inr (.inl rfl))) (.inr h.symm)
    rw [h4]
    refine GL.of_JL (C := Cls w19 (fun q => q = b12 ∨ q = b8) [_, _]) (Cls.start2 hH12 hH8 b128) ?_
    repeat (first | (apply JL.y; (first | (apply Y_move; rfl) | (apply Y_neq; rfl; rfl) | (apply Y_pick_f; rfl; rfl)); rfl) | (apply JL.guard_yes; rfl; rfl; rfl))
    rw [decide_eq_false (show ¬ (tk ≠ tk) by simp)]
    repeat (first | (apply JL.y; (first | (apply Y_move; rfl) | (apply Y_neq; rfl; rfl) | (apply Y_pick_f; rfl; rfl)); rfl) | (apply JL.callq; rfl; rfl; (intro wc hwc; first | exact gSeq_spec (hS19.o.ext hwc.ext hnb13))) | (apply JL.guard_yes; rfl; rfl; rfl))
    rw [decide_eq_false (show ¬ (seq ≠ seq) by simp)]
    repeat (first | (apply JL.y; (first | (apply Y_move; rfl) | (apply Y_assign; rfl) | (apply Y_fieldAddr; rfl; rfl) | (apply Y_load1 0; rfl; rfl; rfl; exact inferInstance) | (apply Y_len; rfl) | (apply Y_neq; rfl; rfl) | (apply Y_add; rfl; rfl; omega) | (apply Y_pick_f; rfl; rfl)); rfl) | refine J.region ?_ | refine JL.nil ?_ | (apply JL.guard_yes; rfl; rfl; rfl) | refine J.skip ?_ | refine J.cond_f rfl ?_ | (apply J.exit; rfl))
    refine J.intro fun wl hwl => ih (n - (i + 1)) (by omega) _ _ wl ?_ ⟨i + 1, R + dr, _, _, seq, _, _, _, by omega, rfl, by omega, by omega, hS19.ext hwl.ext hD2 hnb13, rfl⟩
    exact ⟨rfl, rfl, rfl, rfl, rfl, trivial⟩
  · obtain ⟨h1, h2, h3, h4⟩ := offR_yes (ms := ms') (seq := seq) (mode := s.mode) (lane := s.lane) (ws := s.ws.take 8) (now := s.n) (R := R + dr) hbi9 (by rw [← ho]; exact Classical.not_not.1 hne)
    rw [← ho] at h1 h2 h3 h4
    rw [hok] at h4
    have hl : zs2.length = zs1.length + 1 := by
      have e1 := congrArg List.length hz1
      have e2 := congrArg List.length hz2
      rw [St.srt_len, List.length_map] at e1 e2
      omega
    have hz24 : zs2.length ≤ 24 := by
      have e2 := congrArg List.length hz2
      rw [St.srt_len, List.length_map] at e2
      rw [e2]; exact hS17.o.l.len
    rw [h2] at hS17
    repeat (first | (apply JL.y; (first | (apply Y_move; rfl) | (apply Y_len; rfl) | (apply Y_neq; rfl; rfl) | (apply Y_add; rfl; rfl; omega)); rfl) | refine J.seq ?_ | refine J.region ?_ | refine J.skip ?_)
    rw [decide_eq_false (show ¬ ((zs2.length : Int) ≠ (zs1.length : Int) + 1) by omega)]
    repeat (first | (apply JL.y; (apply Y_move; rfl); rfl) | (apply JL.guard_yes; rfl; rfl; rfl))
    refine JL.call _ rfl rfl (fun w18 hw18 => gTokens_spec (hS17.o.ext hw18.ext hnb13) (R + dr)) fun w18 r w19 hw18 ⟨hr, hE19, hG19⟩ => ?_
    subst hr
    have hS18 := hS17.ext hw18.ext hD2 hnb13
    have hS19 : GSt W w19 g gl gb Ol2 E2 kg o.ms _ _ (seq + 1) := ⟨hG19, hS18.x.then hE19 fun q h1 h2 => by have := hS18.new q (.inl (.inr (.inl h2))); omega, hS18.new⟩
    have hH12 := (hw18.has _ (.head _)).keep hE19 fun h => hnb13 gb (.inl (.inr (.inl rfl))) (.inl h.symm)
    have hH8 := (hw18.has _ (.tail _ (.head _))).keep hE19 fun h => hnb13 gb (.inl (.inr (.inl rfl))) (.inr h.symm)
    rw [h4]
    refine GL.of_JL (C := Cls w19 (fun q => q = b12 ∨ q = b8) [_, _]) (Cls.start2 hH12 hH8 b128) ?_
    repeat (first | (apply JL.y; (first | (apply Y_move; rfl) | (apply Y_neq; rfl; rfl) | (apply Y_sub; rfl; rfl; omega) | (apply Y_pick_f; rfl; rfl)); rfl) | (apply JL.guard_yes; rfl; rfl; rfl))
    rw [decide_eq_false (show ¬ (tk - 1 ≠ tk - 1) by simp)]
    repeat (first | (apply JL.y; (first | (apply Y_move; rfl) | (apply Y_neq; rfl; rfl) | (apply Y_add; rfl; rfl; omega) | (apply Y_pick_f; rfl; rfl)); rfl) | (apply JL.callq; rfl; rfl; (intro wc hwc; first | exact gSeq_spec (hS19.o.ext hwc.ext hnb13))) | (apply JL.guard_yes; rfl; rfl; rfl))
    rw [decide_eq_false (show ¬ (seq + 1 ≠ seq + 1) by simp)]
    repeat (first | (apply JL.y; (first | (apply Y_move; rfl) | (apply Y_fieldAddr; rfl; rfl) | (apply Y_load1 0; rfl; rfl; rfl; exact inferInstance) | (apply Y_neq; rfl; rfl) | (apply Y_add; rfl; rfl; omega) | (apply Y_pick_f; rfl; rfl)); rfl) | refine JL.nil ?_ | (apply JL.guard_yes; rfl; rfl; rfl))
    rw [h3, decide_eq_false (show ¬ (seq + 1 ≠ seq + 1) by simp)]
    repeat (first | (apply JL.y; (first | (apply Y_move; rfl) | (apply Y_assign; rfl) | (apply Y_add; rfl; rfl; omega)); rfl) | refine J.region ?_ | refine JL.nil ?_ | refine J.skip ?_ | refine J.cond_f rfl ?_ | refine J.inBlock ?_)
    refine J.intro fun wl hwl => ih (n - (i + 1)) (by omega) _ _ wl ?_ ⟨i + 1, R + dr, _, _, seq + 1, _, _, _, by omega, rfl, by omega, by omega, hS19.ext hwl.ext hD2 hnb13, rfl⟩
    exact ⟨rfl, rfl, rfl, rfl, rfl, trivial⟩
end Go.Proofs.Ytmkpbbdocndfbaa
