/- The walk of lex.All (and of its deferred function), in the words of HLex. -/
import Derived.Test.YthdkjfhpbigdpaaDoorHLexFirst
import Derived.Defers
import Derived.Recover
import Derived.Laws.Pointers
import Derived.RegionTactic
import Derived.ChangeAlike
import Derived.Deep.DeepCutAuto
import Derived.Deep.CutBlock
import Derived.Test.YthdkjfhpbigdpaaDoorQx0
import Derived.Laws.NewBlocks
namespace Go.Proofs.YthdkjfhpbigdpaaDoor.HLexC
open Go Go.RowKit Go.Lib Go.Proofs Go.Proofs.YthdkjfhpbigdpaaDoorW.PrintWords Go.Proofs.YthdkjfhpbigdpaaDoorW.PrintLast Go.Proofs.YthdkjfhpbigdpaaDoorW.PrintMore Go.Proofs.YthdkjfhpbigdpaaDoor.Q
set_option linter.unusedVariables false
set_option linter.unusedSimpArgs false

set_option maxRecDepth 100000 in
theorem wrong_neq (er : Int) : ∀ W : World, (binOp .neq 20 (.iface 65 (.agg #[.int .i64 er])) .nilIface).run Tryd.prog W = .ok (.bool true) W := fun W => run_neq_held_nil _ _ _ _ (by kernel_rfl)
set_option maxRecDepth 100000 in
theorem wrong_assert (er : Int) : ∀ W : World, (Instr.typeAssert (.iface 65 (.agg #[.int .i64 er])) 20 65 true).run Tryd.prog W = .ok (.tuple #[.agg #[.int .i64 er], .bool true]) W := fun W => by rfl
set_option maxRecDepth 100000 in
theorem nil_neq : ∀ W : World, (binOp .neq 20 .nilIface .nilIface).run Tryd.prog W = .ok (.bool false) W := fun W => run_neq_nil_nil _ _ (by kernel_rfl)
set_option maxHeartbeats 1000000 in
theorem catch_panicking (g0 g1 : Nat) (er : Int) (v0 v1 : Value) (older : List PanicEntry) (w : World)
    (h0 : w.heap[g0]? = some (.cells #[v0] 57 (0, 0))) (h1 : w.heap[g1]? = some (.cells #[v1] 34 (0, 0))) (hne : g0 ≠ g1) :
    CallsD Tryd.prog 42 #[.pointer (some ⟨g0, 0, none⟩), .pointer (some ⟨g1, 0, none⟩)] (.panicking ({ v := .iface 65 (.agg #[.int .i64 er]), recovered := false } :: older)) w fun e u' w' =>
      e = .returned (.tuple #[]) ∧ u' = .panicking ({ v := .iface 65 (.agg #[.int .i64 er]), recovered := true } :: older) ∧
        w'.heap[g0]? = some (.cells #[.slice none 0 0] 57 (0, 0)) ∧ w'.heap[g1]? = some (.cells #[.int .i64 er] 34 (0, 0)) ∧ (∀ B, B ≤ g0 → B ≤ g1 → B ≤ w.heap.size → Below B w w') := by
  refine callsD_of_wpS Tryd.func42 rfl fun c₀ cs hu => ?_
  apply wpS_seq
  apply wpS_region
  simp [wpOpsS, go_sem, recoverD, hu, Tryd.ntmps42, Exit.thenS]
  have f0 : w.frozen? ⟨g0, 0, none⟩ = false := blk_frozen h0 0
  have f1 : w.frozen? ⟨g1, 0, none⟩ = false := blk_frozen h1 0
  have hneq := wrong_neq er
  have hta := wrong_assert er
  refine wpS_of_wp (wp_mono (Q := fun e a' w' => e = .normal ∧ a'.defers = [] ∧ (w'.heap[g0]? = some (.cells #[.slice none 0 0] 57 (0, 0)) ∧ w'.heap[g1]? = some (.cells #[.int .i64 er] 34 (0, 0)) ∧ (∀ B, B ≤ g0 → B ≤ g1 → B ≤ w.heap.size → Below B w w'))) ?_ ?_)
  · clear hu
    trace "1"
    rw [show (#[Value.pointer (some { block := g0, off := 0 }), Value.pointer (some { block := g1, off := 0 })] ++ ((Array.replicate 16 undef).setIfInBounds 3 (Value.iface 65 (Value.agg #[Value.int IntKind.i64 er]))).setIfInBounds 0 (Value.iface 65 (Value.agg #[Value.int IntKind.i64 er]))) = #[Value.pointer (some { block := g0, off := 0 }), Value.pointer (some { block := g1, off := 0 }), (Value.iface 65 (Value.agg #[Value.int IntKind.i64 er])), undef, undef, (Value.iface 65 (Value.agg #[Value.int IntKind.i64 er])), undef, undef, undef, undef, undef, undef, undef, undef, undef, undef, undef, undef] from rfl]
    go_wp2_with fail
    have l0 := blk_lt h0
    have l1 := blk_lt h1
    have n0 : ¬ w.heap.size = g0 := by omega
    have n1 : ¬ w.heap.size = g1 := by omega
    have n0' : ¬ g0 = w.heap.size := by omega
    have n1' : ¬ g1 = w.heap.size := by omega
    have c0 := blk_cell h0 0
    have c1 := blk_cell h1 0
    simp at c0 c1
    have H0 := Lib.hid h0; have H1 := Lib.hid h1; clear h0 h1
    go_region
    exact ⟨rfl, rfl, blk_drew (blk_alloc (blk_far (p := ⟨g1, 0, none⟩) (blk_put H0.out 0 _ rfl) hne _) _), blk_drew (blk_alloc (blk_put (blk_far (p := ⟨g0, 0, none⟩) H1.out (Ne.symm hne) _) 0 _ rfl) _), fun B b0 b1 b2 => ((((Below.refl B w).setCell b0 _).setCell b1 _).alloc (by simpa using b2) _).drew⟩
  · rintro e a' w' ⟨rfl, hd, h2, h3, h4⟩
    exact ⟨hd, _, rfl, .tuple #[], by simp [results, Tryd.results42, go_sem], rfl, rfl, h2, h3, h4⟩

theorem catch_idle (g0 g1 : Nat) (w : World) :
    CallsD Tryd.prog 42 #[.pointer (some ⟨g0, 0, none⟩), .pointer (some ⟨g1, 0, none⟩)] .returning w fun e u' w' => e = .returned (.tuple #[]) ∧ u' = .returning ∧ w' = w := by
  refine callsD_of_wpS Tryd.func42 rfl fun c₀ cs hu => ?_
  apply wpS_seq
  apply wpS_region
  simp [wpOpsS, go_sem, recoverD, hu, Tryd.ntmps42, Exit.thenS]
  refine wpS_of_wp (wp_mono (Q := fun e a' w' => e = .normal ∧ a'.defers = [] ∧ w' = w) ?_ ?_)
  · have hneq := nil_neq
    rw [show (#[Value.pointer (some { block := g0, off := 0 }), Value.pointer (some { block := g1, off := 0 })] ++ ((Array.replicate 16 undef).setIfInBounds 3 Value.nilIface).setIfInBounds 0 Value.nilIface) = #[Value.pointer (some { block := g0, off := 0 }), Value.pointer (some { block := g1, off := 0 }), Value.nilIface, undef, undef, Value.nilIface, undef, undef, undef, undef, undef, undef, undef, undef, undef, undef, undef, undef] from rfl]
    go_wp2_with fail
  · rintro e a' w' ⟨rfl, hd, rfl⟩
    exact ⟨hd, .returning, by rw [← hu], .tuple #[], by simp [results, Tryd.results42, go_sem], rfl, rfl, rfl⟩

def toS (t : HLex.Tok) : S33 := ⟨(t.kind : Int), ⟨t.text.toArray⟩, (t.n : Int), (t.pos : Int)⟩
def join (acc : List HLex.Tok) : Except (Nat × Nat) (List HLex.Tok) → Except (Nat × Nat) (List HLex.Tok)
  | .ok ts => .ok (acc ++ ts)
  | .error x => .error x
def AllPost (s : ByteArray) (w : World) (e : Ending) (w' : World) : Prop :=
  match HLex.lex s.data.toList with
  | .ok ts => ∃ v, e = .returned (.tuple #[v, .int .i64 0, .int .i64 0]) ∧ Kd.R k33 33 w' w.heap.size (fun _ => True) v (ts.map toS) ∧ Below w.heap.size w w'
  | .error (p, er) => e = .returned (.tuple #[.slice none 0 0, .int .i64 (p : Int), .int .i64 (er : Int)]) ∧ Below w.heap.size w w'

def blanksB : ByteArray := ⟨#[32, 10, 9]⟩
theorem trim_any (x : ByteArray) (w : World) : Calls Tryd.prog 43 #[.string x, .string ⟨#[32, 10, 9]⟩] w fun e w' => (∃ y : ByteArray, e = .returned (.string y) ∧ Hid (y.data.toList = x.data.toList.dropWhile HLex.blank)) ∧ Below w.heap.size w w' :=
  (Tryd.TrimLeft_set x ⟨#[32, 10, 9]⟩ w (by decide) (ascii_of_all (by decide))).mono fun e w' ⟨he, hb⟩ => ⟨⟨_, he, Lib.hid (HLex.trim_blank _)⟩, hb⟩
theorem drop_data (s : ByteArray) (k : Nat) : (s.extract k s.size).data.toList = s.data.toList.drop k := Lib.extract_to_end s k
theorem dropWhile_len (q : UInt8 → Bool) (l : List UInt8) : (l.dropWhile q).length ≤ l.length := (List.dropWhile_suffix q).length_le

structure AllInv (s : ByteArray) (w : World) (gk at_ : Nat) (acc : List HLex.Tok) (lv : Value) (wr : World) : Prop where
  lex : HLex.lex s.data.toList = join acc (HLex.lexFrom gk at_ (s.data.toList.drop at_))
  len : acc.length ≤ at_
  hl : wr.heap[w.heap.size]? = some (.cells #[lv] 57 (0, 0))
  he : wr.heap[w.heap.size + 1]? = some (.cells #[.int .i64 0] 34 (0, 0))
  row : Kd.R k33 33 wr (w.heap.size + 2) (fun _ => True) lv (acc.map toS)
  bel : Below w.heap.size w wr

theorem infoTok : (Tryd.prog.info? 33).map (fun i => (i.zero, i.size, i.bytes)) = some (some (.agg #[(.int .i64 0), (.string ⟨#[]⟩), (.int .i64 0), (.int .i64 0)]), 4, 40) := by kernel_rfl
set_option maxRecDepth 100000 in
set_option maxHeartbeats 4000000 in
theorem all_any (s : ByteArray) (w : World) (hmax : s.size ≤ 1000000000000) :
    Calls Tryd.prog 38 #[.string s] w (AllPost s w) := by
  have hmf : ∀ (fn : Fn) (first cap : Array Value) (w : World), (Instr.makeFunc fn first cap).run Tryd.prog w = .ok (.func fn first cap) w := fun _ _ _ _ => rfl
  go_enter_defers Tryd.func38, Tryd.ntmps38
  go_wp2_with fail
  go_loopg [3] (s.size + 1) (fun gk v3 wr => ∃ (at_ : Nat) (acc : List HLex.Tok) (lv : Value), v3 = .int .i64 at_ ∧ at_ ≤ s.size ∧ s.size - at_ < gk ∧ AllInv s w gk at_ acc lv wr)
  case atStart =>
    refine ⟨0, [], .slice none 0 0, rfl, Nat.zero_le _, by omega, ?_, Nat.le_refl _, ?_, ?_, Kd.R_nil _ _ _ _ _, ?_⟩
    · unfold HLex.lex
      have e1 : s.data.toList.length = s.size := Array.length_toList
      rw [e1, List.drop_zero]
      cases HLex.lexFrom (s.size + 1) 0 s.data.toList <;> rfl
    · exact blk_alloc (blk_new w _) _
    · have h := blk_new (w.alloc (Obj.cells #[Value.slice none 0 0] 57)) (Obj.cells #[Value.int IntKind.i64 0] 34)
      rw [World.size_alloc] at h
      exact h
    · exact below_alloc (below_alloc (Below.refl _ w) _) _
  case round =>
    obtain ⟨at_, acc, lv, rfl, hle, hgk, hinv⟩ := hrel
    have e1 : s.data.toList.length = s.size := Array.length_toList
    have hrl := dropWhile_len HLex.blank (s.data.toList.drop at_)
    rw [List.length_drop, e1] at hrl
    have hcl := blk_cell hinv.hl 0; have hce := blk_cell hinv.he 0
    have hfl := blk_frozen hinv.hl 0; have hfe := blk_frozen hinv.he 0
    simp at hcl hce
    cases hr : (s.data.toList.drop at_).dropWhile HLex.blank
    · rw [hr] at hrl
      have HR := Lib.hid hr; clear hr
      have E1 := Lib.hid e1; clear e1
      go_upto_region 3 with (fail)
      refine (trim_any _ _).mono ?_
      rintro e w2 ⟨⟨y, rfl, hy⟩, hb2⟩
      have hyl := hy.out
      rw [drop_data, HR.out] at hyl
      have hy0 : y = ⟨#[]⟩ := (bytes_eq_iff y ⟨#[]⟩).2 hyl
      subst hy0
      clear hy hyl
      have hl2 := blk_below hinv.hl hb2
      have he2 := blk_below hinv.he hb2
      have hr2 := Kd.R_below hinv.row hb2
      have hB2 := below_step hinv.bel hb2
      have hlex := hinv.lex
      obtain ⟨gk, rfl⟩ : ∃ g, gk = g + 1 := ⟨gk - 1, by omega⟩
      unfold HLex.lexFrom at hlex
      rw [HR.out] at hlex
      simp only [if_true] at hlex
      have k2 := blk_cell hl2 0; have k3 := blk_cell he2 0; have z2 := blk_frozen hl2 0; have z3 := blk_frozen he2 0
      simp at k2 k3
      have HL2 := Lib.hid hl2; have HE2 := Lib.hid he2; have HR2 := Lib.hid hr2; have HB2 := Lib.hid hB2; have HLEX := Lib.hid hlex
      obtain ⟨A1, c1, hlv⟩ := Kd.R_slice hr2
      clear hl2 he2 hr2 hB2 hlex hfe hfl hcl hce
      go_wp2_with fail
      have m0 := blk_far (p := ⟨w.heap.size + 1, 0, none⟩) (blk_put HL2.out 0 (.slice A1 acc.length c1) rfl) (by simp) (.int .i64 0)
      have m1 := blk_put (blk_far (p := ⟨w.heap.size, 0, none⟩) HE2.out (by simp) (.slice A1 acc.length c1)) 0 (.int .i64 0) rfl
      have k4 : ((w2.setCell ⟨w.heap.size, 0, none⟩ (.slice A1 acc.length c1)).setCell ⟨w.heap.size + 1, 0, none⟩ (.int .i64 0)).cell? ⟨w.heap.size, 0, none⟩ = some (.slice A1 acc.length c1) := blk_cell m0 0
      have k5 : ((w2.setCell ⟨w.heap.size, 0, none⟩ (.slice A1 acc.length c1)).setCell ⟨w.heap.size + 1, 0, none⟩ (.int .i64 0)).cell? ⟨w.heap.size + 1, 0, none⟩ = some (.int .i64 0) := blk_cell m1 0
      refine leaves_cons (f := 42) (args := #[.pointer (some ⟨w.heap.size, 0, none⟩), .pointer (some ⟨w.heap.size + 1, 0, none⟩)]) (by simp) (by simp [go_sem]) ?_
      refine (catch_idle _ _ _).mono ?_
      rintro e u' w4 ⟨rfl, rfl, rfl⟩
      have HLV := Lib.hid hlv
      clear k2 k3 z2 z3 hlv m0 m1
      simp [Leaves, settle, results, Tryd.results38, go_sem, k4, k5]
      unfold AllPost
      rw [HLEX.out]
      have h := Kd.R_mono (Kd.R_far (p := ⟨w.heap.size + 1, 0, none⟩) (Kd.R_mono (Kd.R_far (p := ⟨w.heap.size, 0, none⟩) (Kd.R_bound HR2.out) (fun k hk => by have := hk.2.1; simp; omega) (.slice A1 acc.length c1)) (fun k hk => (hk.2.1 : w.heap.size + 2 ≤ k))) (fun k hk => by simp; omega) (.int .i64 0)) (fun _ _ => trivial)
      rw [HLV.out] at h
      exact ⟨_, rfl, by simpa [List.length_map] using Kd.R_lower h (Nat.le_add_right _ 2), (HB2.out.setCell (Nat.le_refl _) _).setCell (Nat.le_succ _) _⟩
    · rename_i c0 r0
      rw [hr] at hrl
      rw [List.length_cons] at hrl
      have HR := Lib.hid hr; clear hr
      have E1 := Lib.hid e1; clear e1
      go_upto_region 3 with (fail)
      refine (trim_any _ _).mono ?_
      rintro e w2 ⟨⟨y, rfl, hy⟩, hb2⟩
      have hyl := hy.out
      rw [drop_data, HR.out] at hyl
      have hyz : y.data.toList.length = r0.length + 1 := by rw [hyl, List.length_cons]
      rw [Array.length_toList] at hyz
      have hyz' : y.size = r0.length + 1 := hyz
      have q2 : 0 < y.size := by omega
      have q3 : y.size ≤ s.size - at_ := by omega
      have hpz : ((s.size : Int) - (y.size : Int)) = ((s.size - y.size : Nat) : Int) := by omega
      have hp1 : s.size - y.size < s.size := by omega
      have hp2 : at_ ≤ s.size - y.size := by omega
      have hpd : s.data.toList.drop (s.size - y.size) = c0 :: r0 := by
        have hs := List.dropWhile_suffix HLex.blank (l := s.data.toList.drop at_)
        rw [HR.out] at hs
        have hs2 := hs.trans (List.drop_suffix at_ s.data.toList)
        have := List.suffix_iff_eq_drop.1 hs2
        rw [List.length_cons, E1.out, ← hyz'] at this
        exact this.symm
      have HP := Lib.hid hpz
      have HPD := Lib.hid hpd
      have HYZ := Lib.hid hyz'
      clear hy hyl hyz hyz' hpz hpd
      go_upto_region 3 with (fail)
      rw [HP.out]
      generalize hpg : s.size - y.size = p at *
      have HPG := Lib.hid hpg
      clear hpg
      go_upto_region 6 with (fail)
      have hxd : (s.extract p s.size).data.toList = c0 :: r0 := by rw [drop_data, HPD.out]
      have hxz : (s.extract p s.size).size = r0.length + 1 := by
        have : (s.extract p s.size).data.toList.length = (s.extract p s.size).size := Array.length_toList
        rw [hxd, List.length_cons] at this; exact this.symm
      refine (first_any (s.extract p s.size) w2 (by omega) (by omega)).mono ?_
      rintro e w3 ⟨hres, hb3⟩
      rw [hxd] at hres
      have hl3 := blk_below (blk_below hinv.hl hb2) hb3
      have he3 := blk_below (blk_below hinv.he hb2) hb3
      have hr3 := Kd.R_below (Kd.R_below hinv.row hb2) hb3
      have hB3 := below_step (below_step hinv.bel hb2) hb3
      have hlex := hinv.lex
      have hlen := hinv.len
      obtain ⟨gk, rfl⟩ : ∃ g, gk = g + 1 := ⟨gk - 1, by omega⟩
      unfold HLex.lexFrom at hlex
      rw [HR.out] at hlex
      simp only [reduceCtorEq, if_false] at hlex
      have hpos : at_ + ((List.drop at_ s.data.toList).length - (c0 :: r0).length) = p := by
        rw [List.length_drop, List.length_cons, E1.out]
        have := HPG.out; have := HYZ.out; omega
      rw [hpos] at hlex
      cases hfs : HLex.first (c0 :: r0) with
      | error er =>
        rw [hfs] at hres hlex
        simp only at hres hlex
        subst hres
        refine leaves_cons (f := 42) (args := #[.pointer (some ⟨w.heap.size, 0, none⟩), .pointer (some ⟨w.heap.size + 1, 0, none⟩)]) (by simp) (by simp [go_sem]) ?_
        refine (catch_panicking w.heap.size (w.heap.size + 1) er lv (.int .i64 0) [] w3 hl3 he3 (by omega)).mono ?_
        rintro e u' w4 ⟨rfl, rfl, h2, h3, h4⟩
        have k2 := blk_cell h2 0; have k3 := blk_cell h3 0
        simp at k2 k3
        clear hfe hfl hcl hce hl3 he3
        simp [Leaves, settle, results, Tryd.results38, go_sem, k2, k3]
        unfold AllPost
        rw [hlex]
        exact ⟨rfl, hB3.trans (h4 _ (Nat.le_refl _) (by omega) hB3.size)⟩
      | ok ktn =>
        obtain ⟨k, tx, n⟩ := ktn
        rw [hfs] at hres hlex
        simp only at hres hlex
        subst hres
        simp only
        have hpre := HLex.first_prefix hfs
        have htx1 : tx.length ≤ r0.length + 1 := by have := hpre.1.length_le; rwa [List.length_cons] at this
        have htx0 : 0 < tx.length := List.length_pos_iff.2 hpre.2
        have hend : p + tx.length ≤ s.size := by have := HPG.out; have := HYZ.out; omega
        clear hpre
        go_upto_region 7 with (fail)
        have hl4 := blk_alloc hl3 (Obj.cells #[Value.int IntKind.i64 ↑k, Value.string { data := tx.toArray }, Value.int IntKind.i64 ↑n, Value.int IntKind.i64 ↑p] 33)
        have he4 := blk_alloc he3 (Obj.cells #[Value.int IntKind.i64 ↑k, Value.string { data := tx.toArray }, Value.int IntKind.i64 ↑n, Value.int IntKind.i64 ↑p] 33)
        have hr4 := Kd.R_alloc hr3 (Obj.cells #[Value.int IntKind.i64 ↑k, Value.string { data := tx.toArray }, Value.int IntKind.i64 ↑n, Value.int IntKind.i64 ↑p] 33)
        have hB4 := below_alloc hB3 (Obj.cells #[Value.int IntKind.i64 ↑k, Value.string { data := tx.toArray }, Value.int IntKind.i64 ↑n, Value.int IntKind.i64 ↑p] 33)
        have ht4 := blk_new w3 (Obj.cells #[Value.int IntKind.i64 ↑k, Value.string { data := tx.toArray }, Value.int IntKind.i64 ↑n, Value.int IntKind.i64 ↑p] 33)
        have hne4 : some w3.heap.size ≠ lv.ownBlock := fun e_ => by have := ((Kd.R_bound hr3).1 _ e_.symm).2.2.1; omega
        have c2 := blk_cell hl4 0
        have d0 := blk_cell ht4 0; have d1 := blk_cell ht4 1; have d2 := blk_cell ht4 2; have d3 := blk_cell ht4 3
        simp only [List.getElem?_toArray, List.getElem?_cons_zero, List.getElem?_cons_succ] at c2 d0 d1 d2 d3
        have hsz4 := hB4.size
        have hsz3 := hB3.size
        have hw3 : w.heap.size + 2 ≤ w3.heap.size := by have := blk_lt he3; omega
        have HL4 := Lib.hid hl4; have HE4 := Lib.hid he4; have HR4 := Lib.hid hr4; have HB4 := Lib.hid hB4; have HT4 := Lib.hid ht4; have HLEX := Lib.hid hlex; have HN4 := Lib.hid hne4
        clear hfe hfl hcl hce hl3 he3 hr3 hB3 hl4 he4 hr4 hB4 ht4 hlex hfs hpos hne4 hsz4
        have hlenm : ((List.map toS acc).length + 1) * 40 ≤ 140737488355328 := by rw [List.length_map]; omega
        go_wp2_with (at_builtin; go_loud (refine Kd.R_append k33 (w0 := w3.alloc (Obj.cells #[Value.int IntKind.i64 ↑k, Value.string { data := tx.toArray }, Value.int IntKind.i64 ↑n, Value.int IntKind.i64 ↑p] 33)) (w.heap.size + 2) rfl (.tmp 26) (.tmp 28) 57 33 (.agg #[(.int .i64 0), (.string ⟨#[]⟩), (.int .i64 0), (.int .i64 0)]) 40 rfl Tryd.underlying57 infoTok rfl (by decide) (by omega) lv (acc.map toS) (⟨(k : Int), ⟨tx.toArray⟩, (n : Int), (p : Int)⟩ : S33) [.int .i64 k, .string ⟨tx.toArray⟩, .int .i64 n, .int .i64 p] (fun _ => True) (fun _ => False) rfl (by first | (go_simp; done) | (go_simp; rfl)) (k33_mkM _ _ _ _) (fun _ hk => hk.elim) (fun _ _ => trivial) HR4.out (Below.refl _ _) (by simp; omega) hlenm ?_); intro v1 w5 ho hb hg hat; obtain ⟨A1, c1, rfl⟩ := Kd.R_slice ho; have hl5 := (hb.block w.heap.size (by omega)).trans HL4.out; have he5 := (hb.block (w.heap.size + 1) (by omega)).trans HE4.out; have ht5 := blk_grown HT4.out hg HN4.out; have e2 := blk_cell hl5 0; have f2 := blk_frozen hl5 0; have e5 := blk_cell ht5 1; simp only [List.getElem?_toArray, List.getElem?_cons_zero, List.getElem?_cons_succ] at e2 e5; have HL5 := Lib.hid hl5; have HE5 := Lib.hid he5; have HO := Lib.hid ho; have HBB := Lib.hid hb; clear hl5 he5 ht5 ho hb hg hat)
        go_roundg gk
        case measure => omega
        case rel =>
          refine ⟨p + tx.length, acc ++ [⟨k, tx, n, p⟩], .slice A1 (acc.length + 1) c1, by go_num, hend, by omega, ?_, ?_, ?_, ?_, ?_, ?_⟩
          · rw [HLEX.out]
            have hd : List.drop (p + tx.length) s.data.toList = List.drop tx.length (c0 :: r0) := by rw [← HPD.out, List.drop_drop]
            rw [hd]
            cases HLex.lexFrom gk (p + tx.length) (List.drop tx.length (c0 :: r0)) with
            | ok ts => simp [join]
            | error e => simp [join]
          · rw [List.length_append, List.length_singleton]; omega
          · exact blk_put HL5.out 0 _ rfl
          · exact blk_far (p := ⟨w.heap.size, 0, none⟩) HE5.out (by simp) _
          · rw [List.map_append]
            have h := Kd.R_mono (Kd.R_far (p := ⟨w.heap.size, 0, none⟩) (Kd.R_bound HO.out) (fun k hk => by have := hk.2.1; simp; omega) (.slice A1 (acc.length + 1) c1)) (fun _ _ => trivial)
            simpa [List.length_map, toS] using h
          · exact (HB4.out.trans (HBB.out.mono (by omega))).setCell (Nat.le_refl _) _
end Go.Proofs.YthdkjfhpbigdpaaDoor.HLexC
