-- Written for this claim.
import Derived.Test.YthgmpflfgicmbaaDoorQx8
import Derived.Test.YthgmpflfgicmbaaDoorPLexMore
namespace Go.Proofs.YthgmpflfgicmbaaDoor.Pure
open Go Go.RowKit Go.Lib Go.Proofs Go.Proofs.YthgmpflfgicmbaaDoor.Q Go.Proofs.YthgmpflfgicmbaaDoorW.PrintWords Go.Proofs.YthgmpflfgicmbaaDoorW.PrintLast Go.Proofs.YthgmpflfgicmbaaDoorW.PrintMore
open HLexC (toS)
open HLex (Tok Stands)
open More
theorem both_data (a b : ByteArray) : ((a ++ (⟨#[32]⟩ : ByteArray)) ++ b).data.toList = a.data.toList ++ 32 :: b.data.toList := by
  simp [ByteArray.data_append]
theorem one_size : (⟨#[32]⟩ : ByteArray).size = 1 := rfl
theorem both_size (a b : ByteArray) : ((a ++ (⟨#[32]⟩ : ByteArray)) ++ b).size = a.size + 1 + b.size := by
  rw [ByteArray.size_append, ByteArray.size_append, one_size]
theorem lex_both (a b : ByteArray) : HLex.lex ((a ++ (⟨#[32]⟩ : ByteArray)) ++ b).data.toList = HLex.both (HLex.lex a.data.toList) (HLex.shift (a.size + 1) (HLex.lex b.data.toList)) := by
  rw [both_data, HLex.lex_lexs, HLex.lexs_both (by decide), HLex.lex_lexs, HLex.lex_lexs, ← HLex.lexs_shift, size_len, show 0 + a.size + 1 = 0 + (a.size + 1) by omega]

set_option linter.unusedVariables false
set_option linter.unusedSimpArgs false
theorem e1000 (n : Nat) (h : n ≤ 1000) : decide ((n : Int) > 1000) = false := by simp; omega
set_option maxRecDepth 100000 in
theorem big_walk (a b : ByteArray) (w : World) (h : ¬ (a.size ≤ 1000 ∧ b.size ≤ 1000)) :
    Calls Tryd.prog 6 #[.string a, .string b] w fun e w' => e = .returned (.bool true) ∧ Below w.heap.size w w' := by
  have HB := Lib.hid (Below.refl w.heap.size w)
  go_enter Tryd.func6, Tryd.ntmps6
  by_cases ha : a.size ≤ 1000
  · have hb : ¬ b.size ≤ 1000 := fun hb => h ⟨ha, hb⟩
    have d1 := e1000 a.size ha
    have d2 : decide ((b.size : Int) > 1000) = true := by simp; omega
    go_wp2_with (go_at_call 9; refine (gossamerlaw01_fixed.calls 8 true _ fixed_is).mono ?_; rintro e wf ⟨rfl, hbf⟩; have n0_ := Lib.hid (below_step HB.out hbf); clear HB hbf; have HB := n0_; clear n0_)
    go_ret
    exact ⟨rfl, HB.out⟩
  · have d1 : decide ((a.size : Int) > 1000) = true := by simp; omega
    go_wp2_with (go_at_call 9; refine (gossamerlaw01_fixed.calls 8 true _ fixed_is).mono ?_; rintro e wf ⟨rfl, hbf⟩; have n0_ := Lib.hid (below_step HB.out hbf); clear HB hbf; have HB := n0_; clear n0_)
    go_ret
    exact ⟨rfl, HB.out⟩
def sh (n : Nat) (x : S33) : S33 := ⟨x.f0, x.f1, x.f2, wrap64 (x.f3 + ((n : Int) + 1))⟩
set_option maxRecDepth 100000 in
theorem small_walk (a b : ByteArray) (w : World) (ha : a.size ≤ 1000) (hb : b.size ≤ 1000) (l1 l2 l3 : List S33) (p1 e1 p2 e2 p3 e3 : Int)
    (fa : lex_All.f a = some (l1, p1, e1)) (fb : lex_All.f b = some (l2, p2, e2)) (fc : lex_All.f ((a ++ (⟨#[32]⟩ : ByteArray)) ++ b) = some (l3, p3, e3))
    (n1 : l1.length ≤ 1000) (n2 : l2.length ≤ 1000)
    (h1 : e1 ≠ 0 → e3 = e1) (h2 : e1 = 0 → e2 ≠ 0 → e3 = e2 ∧ p3 = wrap64 ((a.size : Int) + 1 + p2)) (h3 : e1 = 0 → e2 = 0 → e3 = 0 ∧ l3 = l1 ++ l2.map (sh a.size)) :
    Calls Tryd.prog 6 #[.string a, .string b] w fun e w' => e = .returned (.bool true) ∧ Below w.heap.size w w' := by
  have HB := Lib.hid (Below.refl w.heap.size w)
  have d1 := e1000 a.size ha
  have d2 := e1000 b.size hb
  have FA := Lib.hid fa; have FB := Lib.hid fb; have FC := Lib.hid fc
  have H3 := Lib.hid h3
  clear fa fb fc h3
  go_enter Tryd.func6, Tryd.ntmps6
  go_wp2_with (go_at_call 9; refine (gossamerlaw01_fixed.calls 8 true _ fixed_is).mono ?_; rintro e wf ⟨rfl, hbf⟩; have n0_ := Lib.hid (below_step HB.out hbf); clear HB hbf; have HB := n0_; clear n0_)
  refine (lex_All.calls a l1 p1 e1 _ FA.out).mono ?_
  rintro e w1 ⟨va, rfl, ra, hb1⟩
  obtain ⟨A1, c1, rfl, hc1, ca⟩ := Kd.R_reads ra
  have n0_ := Lib.hid (below_step HB.out hb1); clear HB hb1; have HB := n0_; clear n0_ ra
  have CA := Lib.hid ca; clear ca
  go_wp2_with fail
  refine (lex_All.calls b l2 p2 e2 _ FB.out).mono ?_
  rintro e w2 ⟨vb, rfl, rb, hb2⟩
  obtain ⟨A2, c2, rfl, hc2, cb⟩ := Kd.R_reads rb
  have n0_ := Lib.hid (below_step HB.out hb2); clear HB; have HB := n0_; clear n0_ rb
  have n0_ := Lib.hid (Kd.C_below CA.out hb2); clear CA hb2; have CA := n0_; clear n0_
  have CB := Lib.hid cb; clear cb
  go_wp2_with fail
  refine (lex_All.calls _ l3 p3 e3 _ FC.out).mono ?_
  rintro e w3 ⟨vc, rfl, rc, hb3⟩
  obtain ⟨A3, c3, rfl, hc3, cc⟩ := Kd.R_reads rc
  have n0_ := Lib.hid (below_step HB.out hb3); clear HB; have HB := n0_; clear n0_ rc
  have n0_ := Lib.hid (Kd.C_below CA.out hb3); clear CA; have CA := n0_; clear n0_
  have n0_ := Lib.hid (Kd.C_below CB.out hb3); clear CB hb3; have CB := n0_; clear n0_
  have CC := Lib.hid cc; clear cc
  by_cases z1 : e1 = 0
  · subst z1
    by_cases z2 : e2 = 0
    · subst z2
      obtain ⟨z3, hl⟩ := H3.out rfl rfl
      subst z3
      have HL := Lib.hid hl
      clear hl h1 h2 H3
      go_wp2_with (first | ((with_reducible refine gate_dst (N := 70) rfl ?_); refine Kd.R_lit k33 _ 33 ?hg (N := 70) ?hd (xs := ([] : List S33)) (inner := []) (ok := fun _ => True) (okp := fun _ => True) ?hr ?hp (fun _ hk => hk) trivial (Below.refl _ _) (Nat.le_refl _) (by simp) ?_; (case hd => rfl); (case hg => rfl); (case hr => first | (go_simp; done) | (go_simp; rfl)); (case hp => exact (Reps.none _ _)); intro vl w4 ho3 hb hg_ hnew_; clear hg_ hnew_; have HO := Lib.hid ho3; have HBW := Lib.hid hb; have CA4 := Lib.hid (Kd.C_below CA.out hb); have hz4 := hb.size; clear ho3 hb) | (at_builtin; go_loud (refine Kd.R_append_rows k33 (w0 := w3) w3.heap.size rfl (.tmp 70) (.tmp 71) 22 33 (.agg #[(.int .i64 0), (.string ⟨#[]⟩), (.int .i64 0), (.int .i64 0)]) 40 rfl Tryd.underlying22 info33 rfl (by decide) (by omega) vl [] l1 A1 l1.length c1 (fun _ => True) (fun _ => False) rfl rfl HO.out CA4.out (fun _ _ h => h) (fun _ h => h.elim) (fun _ _ => trivial) HBW.out hz4 ?aL ?_; (case aL => simp; omega); intro v1 w5 ho hb hg hat; have HO5 := Lib.hid ho; have HB5 := Lib.hid hb; clear HO HBW ho hb hg hat)))
      have HB5' := HB5.out
      clear CA4 hz4
      go_loopw [14, 15] (fun v i wr => ∃ k : Nat, k ≤ l2.length ∧ i = .int .i64 k ∧ Hid (Kd.R k33 33 wr w3.heap.size (fun _ => True) v (l1 ++ (l2.take k).map (sh a.size))) ∧ Hid (Below w3.heap.size w3 wr)) (fun _ i _ => l2.length - (intOf i).toNat)
      case atStart => exact ⟨0, Nat.zero_le _, rfl, Lib.hid (by simpa using HO5.out), HB5⟩
      case round =>
        clear HO5 HB5 HB5'
        obtain ⟨k, hk, rfl, hro, hbl⟩ := hrel
        by_cases hlt : k < l2.length
        · obtain ⟨ad, rfl, x0, x1, x2, x3⟩ := at_T33 CB.out (k : Int) (by omega) (by omega)
          have hbl' := hbl.out
          replace x0 := (hbl'.cell (World.block_lt_of_cell? w3 _ x0)).trans x0
          replace x1 := (hbl'.cell (World.block_lt_of_cell? w3 _ x1)).trans x1
          replace x2 := (hbl'.cell (World.block_lt_of_cell? w3 _ x2)).trans x2
          replace x3 := (hbl'.cell (World.block_lt_of_cell? w3 _ x3)).trans x3
          have hsz := hbl'.size
          clear hbl'
          simp only [Int.toNat_natCast] at x0 x1 x2 x3
          have hrk : rd_T33 l2 (k : Int) = l2[k] := by
            unfold rd_T33
            rw [Int.toNat_natCast, List.getD_eq_getElem?_getD, List.getElem?_eq_getElem hlt]; rfl
          rw [hrk] at x0 x1 x2 x3
          generalize hx : l2[k] = x at *
          have HX := Lib.hid hx
          clear hrk hx
          go_upto_region 16 with (fail)
          have hra := Kd.R_alloc hro.out (Obj.cells #[Value.int IntKind.i64 x.f0, Value.string x.f1, Value.int IntKind.i64 x.f2, Value.int IntKind.i64 (wrap64 (x.f3 + ((a.size : Int) + 1)))] 33)
          have hba := below_alloc hbl.out (Obj.cells #[Value.int IntKind.i64 x.f0, Value.string x.f1, Value.int IntKind.i64 x.f2, Value.int IntKind.i64 (wrap64 (x.f3 + ((a.size : Int) + 1)))] 33)
          have hlk : ((l1 ++ (l2.take k).map (sh a.size)).length + 1) * 40 ≤ 140737488355328 := by rw [List.length_append, List.length_map, List.length_take]; omega
          have HRA := Lib.hid hra; have HBA2 := Lib.hid hba; have HLK := Lib.hid hlk; clear hra hba hlk
          go_wp2_with (at_builtin; go_loud (refine Kd.R_append k33 (w0 := w3) w3.heap.size rfl (.tmp 90) (.tmp 92) 22 33 (.agg #[(.int .i64 0), (.string ⟨#[]⟩), (.int .i64 0), (.int .i64 0)]) 40 rfl Tryd.underlying22 info33 rfl (by decide) (by omega) u14 (l1 ++ (l2.take k).map (sh a.size)) (sh a.size x) [.int .i64 x.f0, .string x.f1, .int .i64 x.f2, .int .i64 (wrap64 (x.f3 + ((a.size : Int) + 1)))] (fun _ => True) (fun _ => False) rfl (by first | (go_simp; done) | (go_simp; rfl)) ?aP (fun _ hk => hk.elim) (fun _ _ => trivial) ?aO ?aB ?aS ?aL ?_; (case aL => exact HLK.out); (case aP => exact k33_mkM _ _ _ (sh a.size x)); (case aO => exact HRA.out); (case aB => exact HBA2.out); (case aS => simp; omega); intro v1 w5 ho hb hg hat; have HO := Lib.hid ho; have HB5 := Lib.hid hb; clear ho hb hg hat))
          go_roundw
          case rel =>
            refine ⟨k + 1, by omega, by go_num, Lib.hid ?_, HB5⟩
            have : l1 ++ (l2.take (k + 1)).map (sh a.size) = (l1 ++ (l2.take k).map (sh a.size)) ++ [sh a.size x] := by
              rw [List.take_succ_eq_append_getElem hlt, List.map_append, HX.out, List.append_assoc]; rfl
            rw [this]
            exact HO.out
          case measure => simp [intOf]; omega
        · have hkl : k = l2.length := by omega
          subst hkl
          have hro' := hro.out
          rw [List.take_length, ← HL.out] at hro'
          obtain ⟨A4, c4, rfl, hc4, cd⟩ := Kd.R_reads hro'
          have CD := Lib.hid cd
          have CC2 := Lib.hid (Kd.C_below CC.out hbl.out)
          clear cd hro'
          obtain ⟨k0, hsame⟩ := (same_self l3 (by rw [HL.out]; simp; omega)).rounds
          have HS := Lib.hid hsame
          clear hsame
          go_wp2_with (go_at_call 12; refine (gossamerref01_Same.calls k0 A3 c3 l3 A4 c4 l3 true _ CC2.out hc3 CD.out hc4 HS.out).mono ?_; rintro e w9 ⟨rfl, ⟨m9, rfl⟩⟩)
          go_ret
          exact ⟨rfl, pw_below_drewN (below_step HB.out hbl.out) m9⟩
    · obtain ⟨q1, q2⟩ := h2 rfl z2
      subst q1
      subst q2
      have y1 : decide (e3 = 0) = false := by simpa using z2
      go_wp2_with fail
      go_ret
      exact ⟨rfl, HB.out⟩
  · have q := h1 z1
    subst q
    have y1 : decide (e3 = 0) = false := by simpa using z1
    go_wp2_with fail
    go_ret
    exact ⟨rfl, HB.out⟩
theorem LexBoth_walk (a0 a1 : ByteArray) (_h : a0.size ≤ 140737488351232) (_h1 : a1.size ≤ 140737488351232) (w : World) :
    Calls Tryd.prog 6 #[.string a0, .string a1] w fun e w' => e = .returned (.bool true) ∧ Below w.heap.size w w' := by
  by_cases hs : a0.size ≤ 1000 ∧ a1.size ≤ 1000
  · obtain ⟨hs, ht⟩ := hs
    have hz : ((a0 ++ (⟨#[32]⟩ : ByteArray)) ++ a1).size ≤ 1000000 := by rw [both_size]; omega
    have hb := lex_both a0 a1
    cases e0 : HLex.lex a0.data.toList with
    | error x =>
      obtain ⟨p, er⟩ := x
      rw [e0] at hb
      have f0 := all_err (by omega) e0
      have fb := all_err hz hb
      have hne : er = 10 ∨ er = 11 := (err_is e0).2
      cases e1 : HLex.lex a1.data.toList with
      | error y =>
        obtain ⟨q, es⟩ := y
        exact small_walk a0 a1 w hs ht [] [] [] _ _ _ _ _ _ f0 (all_err (by omega) e1) fb (by simp) (by simp) (fun _ => rfl) (fun h => absurd h (by omega)) (fun h => absurd h (by omega))
      | ok us =>
        have hl1 := toks_len _ _ _ (lex_stands e1)
        rw [size_len] at hl1
        exact small_walk a0 a1 w hs ht [] (us.map toS) [] _ _ _ _ _ _ f0 (all_ok (by omega) e1) fb (by simp) (by simp; omega) (fun _ => rfl) (fun h => absurd h (by omega)) (fun h => absurd h (by omega))
    | ok ts =>
      have st := lex_stands e0
      have hl := toks_len _ _ _ st
      rw [size_len] at hl
      have f0 := all_ok (by omega) e0
      cases e1 : HLex.lex a1.data.toList with
      | error y =>
        obtain ⟨q, es⟩ := y
        rw [e0, e1] at hb
        have fb := all_err hz hb
        obtain ⟨hq, hne⟩ := err_is e1
        rw [size_len] at hq
        refine small_walk a0 a1 w hs ht (ts.map toS) [] [] _ _ _ _ _ _ f0 (all_err (by omega) e1) fb (by simp; omega) (by simp) (fun h => absurd rfl h) (fun _ _ => ⟨rfl, ?_⟩) (fun _ h => absurd h (by omega))
        rw [wrap_small (by omega) (by omega)]; omega
      | ok us =>
        rw [e0, e1] at hb
        have fb := all_ok hz hb
        have st1 := lex_stands e1
        have hl1 := toks_len _ _ _ st1
        have hp := toks_pos _ _ _ st1
        rw [size_len] at hl1
        refine small_walk a0 a1 w hs ht (ts.map toS) (us.map toS) _ _ _ _ _ _ _ f0 (all_ok (by omega) e1) fb (by simp; omega) (by simp; omega) (fun h => absurd rfl h) (fun _ h => absurd rfl h) (fun _ _ => ⟨rfl, ?_⟩)
        rw [List.map_append, List.map_map, List.map_map]
        congr 1
        apply List.map_congr_left
        intro t hmem
        have := hp t hmem
        rw [size_len] at this
        show toS (later (a0.size + 1) t) = sh a0.size (toS t)
        have e3 : (toS t).f3 = (t.pos : Int) := rfl
        unfold sh
        rw [e3, wrap_small (by omega) (by omega)]
        simp [toS, later]
  · exact big_walk a0 a1 w hs
end Go.Proofs.YthgmpflfgicmbaaDoor.Pure
