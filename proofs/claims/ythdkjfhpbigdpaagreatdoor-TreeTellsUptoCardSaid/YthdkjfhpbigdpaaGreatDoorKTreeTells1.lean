-- Written for this claim: several texts in one.
import Derived.Test.YthdkjfhpbigdpaaGreatDoorKTreeTells0
import Derived.Defers
import Derived.Recover
import Derived.Laws.Pointers
import Derived.RegionTactic
import Derived.ChangeAlike
import Derived.Deep.DeepCutAuto
import Derived.Deep.CutBlock
import Derived.Laws.NewBlocks
import Derived.Test.YthdkjfhpbigdpaaGreatDoorWWords
import Derived.MapKept
import Derived.Deep.RegionWith
import Derived.Lib.AppendIntMem
import Derived.Test.YthdkjfhpbigdpaaGreatDoorProg
import Derived.Test.YthdkjfhpbigdpaaGreatDoorWMore
import Derived.Shelf.Strings.Fields
/- The walk of lex.All (and of its deferred function), in the words of HLex. -/
namespace Go.Proofs.YthdkjfhpbigdpaaGreatDoor.HLexC
open Go Go.RowKit Go.Lib Go.Proofs Go.Proofs.YthdkjfhpbigdpaaGreatDoorW.PrintWords Go.Proofs.YthdkjfhpbigdpaaGreatDoorW.PrintLast Go.Proofs.YthdkjfhpbigdpaaGreatDoorW.PrintMore Go.Proofs.YthdkjfhpbigdpaaGreatDoor.Q
set_option linter.unusedVariables false
set_option linter.unusedSimpArgs false

set_option maxRecDepth 100000 in
theorem wrong_neq (er : Int) : ∀ W : World, (binOp .neq 20 (.iface 57 (.agg #[.int .i64 er])) .nilIface).run Tryz.prog W = .ok (.bool true) W := fun W => run_neq_held_nil _ _ _ _ (by kernel_rfl)
set_option maxRecDepth 100000 in
theorem wrong_assert (er : Int) : ∀ W : World, (Instr.typeAssert (.iface 57 (.agg #[.int .i64 er])) 20 57 true).run Tryz.prog W = .ok (.tuple #[.agg #[.int .i64 er], .bool true]) W := fun W => by rfl
set_option maxRecDepth 100000 in
theorem nil_neq : ∀ W : World, (binOp .neq 20 .nilIface .nilIface).run Tryz.prog W = .ok (.bool false) W := fun W => run_neq_nil_nil _ _ (by kernel_rfl)
set_option maxHeartbeats 1000000 in
theorem catch_panicking (g0 g1 : Nat) (er : Int) (v0 v1 : Value) (older : List PanicEntry) (w : World)
  (h0 : w.heap[g0]? = some (.cells #[v0] 44 (0, 0))) (h1 : w.heap[g1]? = some (.cells #[v1] 45 (0, 0))) (hne : g0 ≠ g1) :
  CallsD Tryz.prog 36 #[.pointer (some ⟨g0, 0, none⟩), .pointer (some ⟨g1, 0, none⟩)] (.panicking ({ v := .iface 57 (.agg #[.int .i64 er]), recovered := false } :: older)) w fun e u' w' =>
   e = .returned (.tuple #[]) ∧ u' = .panicking ({ v := .iface 57 (.agg #[.int .i64 er]), recovered := true } :: older) ∧
    w'.heap[g0]? = some (.cells #[.slice none 0 0] 44 (0, 0)) ∧ w'.heap[g1]? = some (.cells #[.int .i64 er] 45 (0, 0)) ∧ (∀ B, B ≤ g0 → B ≤ g1 → B ≤ w.heap.size → Below B w w') := by
 refine callsD_of_wpS Tryz.func36 rfl fun c₀ cs hu => ?_
 apply wpS_seq
 apply wpS_region
 simp [wpOpsS, go_sem, recoverD, hu, Tryz.ntmps36, Exit.thenS]
 have f0 : w.frozen? ⟨g0, 0, none⟩ = false := blk_frozen h0 0
 have f1 : w.frozen? ⟨g1, 0, none⟩ = false := blk_frozen h1 0
 have hneq := wrong_neq er
 have hta := wrong_assert er
 refine wpS_of_wp (wp_mono (Q := fun e a' w' => e = .normal ∧ a'.defers = [] ∧ (w'.heap[g0]? = some (.cells #[.slice none 0 0] 44 (0, 0)) ∧ w'.heap[g1]? = some (.cells #[.int .i64 er] 45 (0, 0)) ∧ (∀ B, B ≤ g0 → B ≤ g1 → B ≤ w.heap.size → Below B w w'))) ?_ ?_)
 ·clear hu
  trace "1"
  rw [show (#[Value.pointer (some { block := g0, off := 0 }), Value.pointer (some { block := g1, off := 0 })] ++ ((Array.replicate 16 undef).setIfInBounds 3 (Value.iface 57 (Value.agg #[Value.int IntKind.i64 er]))).setIfInBounds 0 (Value.iface 57 (Value.agg #[Value.int IntKind.i64 er]))) = #[Value.pointer (some { block := g0, off := 0 }), Value.pointer (some { block := g1, off := 0 }), (Value.iface 57 (Value.agg #[Value.int IntKind.i64 er])), undef, undef, (Value.iface 57 (Value.agg #[Value.int IntKind.i64 er])), undef, undef, undef, undef, undef, undef, undef, undef, undef, undef, undef, undef] from rfl]
  go_wp2_with fail
  have l0 := blk_lt h0
  have l1 := blk_lt h1
  have n0 : ¬ w.heap.size = g0 := by omega
  have n1 : ¬ w.heap.size = g1 := by omega
  have n0' : ¬ g0 = w.heap.size := by omega
  have n1' : ¬ g1 = w.heap.size := by omega
  have c0 := blk_cell h0 0
  have c1 := blk_cell h1 0
  simp at c0 c1
  have H0 := Lib.hid h0; have H1 := Lib.hid h1; clear h0 h1
  go_region
  exact ⟨rfl, rfl, blk_drew (blk_alloc (blk_far (p := ⟨g1, 0, none⟩) (blk_put H0.out 0 _ rfl) hne _) _), blk_drew (blk_alloc (blk_put (blk_far (p := ⟨g0, 0, none⟩) H1.out (Ne.symm hne) _) 0 _ rfl) _), fun B b0 b1 b2 => ((((Below.refl B w).setCell b0 _).setCell b1 _).alloc (by simpa using b2) _).drew⟩
 ·rintro e a' w' ⟨rfl, hd, h2, h3, h4⟩
  exact ⟨hd, _, rfl, .tuple #[], by simp [results, Tryz.results36, go_sem], rfl, rfl, h2, h3, h4⟩

theorem catch_idle (g0 g1 : Nat) (w : World) :
  CallsD Tryz.prog 36 #[.pointer (some ⟨g0, 0, none⟩), .pointer (some ⟨g1, 0, none⟩)] .returning w fun e u' w' => e = .returned (.tuple #[]) ∧ u' = .returning ∧ w' = w := by
 refine callsD_of_wpS Tryz.func36 rfl fun c₀ cs hu => ?_
 apply wpS_seq
 apply wpS_region
 simp [wpOpsS, go_sem, recoverD, hu, Tryz.ntmps36, Exit.thenS]
 refine wpS_of_wp (wp_mono (Q := fun e a' w' => e = .normal ∧ a'.defers = [] ∧ w' = w) ?_ ?_)
 ·have hneq := nil_neq
  rw [show (#[Value.pointer (some { block := g0, off := 0 }), Value.pointer (some { block := g1, off := 0 })] ++ ((Array.replicate 16 undef).setIfInBounds 3 Value.nilIface).setIfInBounds 0 Value.nilIface) = #[Value.pointer (some { block := g0, off := 0 }), Value.pointer (some { block := g1, off := 0 }), Value.nilIface, undef, undef, Value.nilIface, undef, undef, undef, undef, undef, undef, undef, undef, undef, undef, undef, undef] from rfl]
  go_wp2_with fail
 ·rintro e a' w' ⟨rfl, hd, rfl⟩
  exact ⟨hd, .returning, by rw [← hu], .tuple #[], by simp [results, Tryz.results36, go_sem], rfl, rfl, rfl⟩

def toS (t : HLex.Tok) : S49 := ⟨(t.kind : Int), ⟨t.text.toArray⟩, (t.n : Int), (t.pos : Int)⟩
def join (acc : List HLex.Tok) : Except (Nat × Nat) (List HLex.Tok) → Except (Nat × Nat) (List HLex.Tok)
 | .ok ts => .ok (acc ++ ts)
 | .error x => .error x
def AllPost (s : ByteArray) (w : World) (e : Ending) (w' : World) : Prop :=
 match HLex.lex s.data.toList with
 | .ok ts => ∃ v, e = .returned (.tuple #[v, .int .i64 0, .int .i64 0]) ∧ Kd.R k49 49 w' w.heap.size (fun _ => True) v (ts.map toS) ∧ Below w.heap.size w w'
 | .error (p, er) => e = .returned (.tuple #[.slice none 0 0, .int .i64 (p : Int), .int .i64 (er : Int)]) ∧ Below w.heap.size w w'

def blanksB : ByteArray := ⟨#[32, 10, 9]⟩
theorem trim_any (x : ByteArray) (w : World) : Calls Tryz.prog 37 #[.string x, .string ⟨#[32, 10, 9]⟩] w fun e w' => (∃ y : ByteArray, e = .returned (.string y) ∧ Hid (y.data.toList = x.data.toList.dropWhile HLex.blank)) ∧ Below w.heap.size w w' :=
 (Tryz.TrimLeft_set x ⟨#[32, 10, 9]⟩ w (by decide) (ascii_of_all (by decide))).mono fun e w' ⟨he, hb⟩ => ⟨⟨_, he, Lib.hid (HLex.trim_blank _)⟩, hb⟩
theorem drop_data (s : ByteArray) (k : Nat) : (s.extract k s.size).data.toList = s.data.toList.drop k := Lib.extract_to_end s k
theorem dropWhile_len (q : UInt8 → Bool) (l : List UInt8) : (l.dropWhile q).length ≤ l.length := (List.dropWhile_suffix q).length_le

structure AllInv (s : ByteArray) (w : World) (gk at_ : Nat) (acc : List HLex.Tok) (lv : Value) (wr : World) : Prop where
 lex : HLex.lex s.data.toList = join acc (HLex.lexFrom gk at_ (s.data.toList.drop at_))
 len : acc.length ≤ at_
 hl : wr.heap[w.heap.size]? = some (.cells #[lv] 44 (0, 0))
 he : wr.heap[w.heap.size + 1]? = some (.cells #[.int .i64 0] 45 (0, 0))
 row : Kd.R k49 49 wr (w.heap.size + 2) (fun _ => True) lv (acc.map toS)
 bel : Below w.heap.size w wr

theorem infoTok : (Tryz.prog.info? 49).map (fun i => (i.zero, i.size, i.bytes)) = some (some (.agg #[(.int .i64 0), (.string ⟨#[]⟩), (.int .i64 0), (.int .i64 0)]), 4, 40) := by kernel_rfl
set_option maxRecDepth 100000 in
set_option maxHeartbeats 4000000 in
theorem all_any (s : ByteArray) (w : World) (hmax : s.size ≤ 1000000000000) :
  Calls Tryz.prog 31 #[.string s] w (AllPost s w) := by
 have hmf : ∀ (fn : Fn) (first cap : Array Value) (w : World), (Instr.makeFunc fn first cap).run Tryz.prog w = .ok (.func fn first cap) w := fun _ _ _ _ => rfl
 go_enter_defers Tryz.func31, Tryz.ntmps31
 go_wp2_with fail
 go_loopg [3] (s.size + 1) (fun gk v3 wr => ∃ (at_ : Nat) (acc : List HLex.Tok) (lv : Value), v3 = .int .i64 at_ ∧ at_ ≤ s.size ∧ s.size - at_ < gk ∧ AllInv s w gk at_ acc lv wr)
 case atStart =>
  refine ⟨0, [], .slice none 0 0, rfl, Nat.zero_le _, by omega, ?_, Nat.le_refl _, ?_, ?_, Kd.R_nil _ _ _ _ _, ?_⟩
  ·unfold HLex.lex
   have e1 : s.data.toList.length = s.size := Array.length_toList
   rw [e1, List.drop_zero]
   cases HLex.lexFrom (s.size + 1) 0 s.data.toList <;> rfl
  ·exact blk_alloc (blk_new w _) _
  ·have h := blk_new (w.alloc (Obj.cells #[Value.slice none 0 0] 44)) (Obj.cells #[Value.int IntKind.i64 0] 45)
   rw [World.size_alloc] at h
   exact h
  ·exact below_alloc (below_alloc (Below.refl _ w) _) _
 case round =>
  obtain ⟨at_, acc, lv, rfl, hle, hgk, hinv⟩ := hrel
  have e1 : s.data.toList.length = s.size := Array.length_toList
  have hrl := dropWhile_len HLex.blank (s.data.toList.drop at_)
  rw [List.length_drop, e1] at hrl
  have hcl := blk_cell hinv.hl 0; have hce := blk_cell hinv.he 0
  have hfl := blk_frozen hinv.hl 0; have hfe := blk_frozen hinv.he 0
  simp at hcl hce
  cases hr : (s.data.toList.drop at_).dropWhile HLex.blank
  ·rw [hr] at hrl
   have HR := Lib.hid hr; clear hr
   have E1 := Lib.hid e1; clear e1
   go_upto_region 3 with (fail)
   refine (trim_any _ _).mono ?_
   rintro e w2 ⟨⟨y, rfl, hy⟩, hb2⟩
   have hyl := hy.out
   rw [drop_data, HR.out] at hyl
   have hy0 : y = ⟨#[]⟩ := (bytes_eq_iff y ⟨#[]⟩).2 hyl
   subst hy0
   clear hy hyl
   have hl2 := blk_below hinv.hl hb2
   have he2 := blk_below hinv.he hb2
   have hr2 := Kd.R_below hinv.row hb2
   have hB2 := below_step hinv.bel hb2
   have hlex := hinv.lex
   obtain ⟨gk, rfl⟩ : ∃ g, gk = g + 1 := ⟨gk - 1, by omega⟩
   unfold HLex.lexFrom at hlex
   rw [HR.out] at hlex
   simp only [if_true] at hlex
   have k2 := blk_cell hl2 0; have k3 := blk_cell he2 0; have z2 := blk_frozen hl2 0; have z3 := blk_frozen he2 0
   simp at k2 k3
   have HL2 := Lib.hid hl2; have HE2 := Lib.hid he2; have HR2 := Lib.hid hr2; have HB2 := Lib.hid hB2; have HLEX := Lib.hid hlex
   obtain ⟨A1, c1, hlv⟩ := Kd.R_slice hr2
   clear hl2 he2 hr2 hB2 hlex hfe hfl hcl hce
   go_wp2_with fail
   have m0 := blk_far (p := ⟨w.heap.size + 1, 0, none⟩) (blk_put HL2.out 0 (.slice A1 acc.length c1) rfl) (by simp) (.int .i64 0)
   have m1 := blk_put (blk_far (p := ⟨w.heap.size, 0, none⟩) HE2.out (by simp) (.slice A1 acc.length c1)) 0 (.int .i64 0) rfl
   have k4 : ((w2.setCell ⟨w.heap.size, 0, none⟩ (.slice A1 acc.length c1)).setCell ⟨w.heap.size + 1, 0, none⟩ (.int .i64 0)).cell? ⟨w.heap.size, 0, none⟩ = some (.slice A1 acc.length c1) := blk_cell m0 0
   have k5 : ((w2.setCell ⟨w.heap.size, 0, none⟩ (.slice A1 acc.length c1)).setCell ⟨w.heap.size + 1, 0, none⟩ (.int .i64 0)).cell? ⟨w.heap.size + 1, 0, none⟩ = some (.int .i64 0) := blk_cell m1 0
   refine leaves_cons (f := 36) (args := #[.pointer (some ⟨w.heap.size, 0, none⟩), .pointer (some ⟨w.heap.size + 1, 0, none⟩)]) (by simp) (by simp [go_sem]) ?_
   refine (catch_idle _ _ _).mono ?_
   rintro e u' w4 ⟨rfl, rfl, rfl⟩
   have HLV := Lib.hid hlv
   clear k2 k3 z2 z3 hlv m0 m1
   simp [Leaves, settle, results, Tryz.results31, go_sem, k4, k5]
   unfold AllPost
   rw [HLEX.out]
   have h := Kd.R_mono (Kd.R_far (p := ⟨w.heap.size + 1, 0, none⟩) (Kd.R_mono (Kd.R_far (p := ⟨w.heap.size, 0, none⟩) (Kd.R_bound HR2.out) (fun k hk => by have := hk.2.1; simp; omega) (.slice A1 acc.length c1)) (fun k hk => (hk.2.1 : w.heap.size + 2 ≤ k))) (fun k hk => by simp; omega) (.int .i64 0)) (fun _ _ => trivial)
   rw [HLV.out] at h
   exact ⟨_, rfl, by simpa [List.length_map] using Kd.R_lower h (Nat.le_add_right _ 2), (HB2.out.setCell (Nat.le_refl _) _).setCell (Nat.le_succ _) _⟩
  ·rename_i c0 r0
   rw [hr] at hrl
   rw [List.length_cons] at hrl
   have HR := Lib.hid hr; clear hr
   have E1 := Lib.hid e1; clear e1
   go_upto_region 3 with (fail)
   refine (trim_any _ _).mono ?_
   rintro e w2 ⟨⟨y, rfl, hy⟩, hb2⟩
   have hyl := hy.out
   rw [drop_data, HR.out] at hyl
   have hyz : y.data.toList.length = r0.length + 1 := by rw [hyl, List.length_cons]
   rw [Array.length_toList] at hyz
   have hyz' : y.size = r0.length + 1 := hyz
   have q2 : 0 < y.size := by omega
   have q3 : y.size ≤ s.size - at_ := by omega
   have hpz : ((s.size : Int) - (y.size : Int)) = ((s.size - y.size : Nat) : Int) := by omega
   have hp1 : s.size - y.size < s.size := by omega
   have hp2 : at_ ≤ s.size - y.size := by omega
   have hpd : s.data.toList.drop (s.size - y.size) = c0 :: r0 := by
    have hs := List.dropWhile_suffix HLex.blank (l := s.data.toList.drop at_)
    rw [HR.out] at hs
    have hs2 := hs.trans (List.drop_suffix at_ s.data.toList)
    have := List.suffix_iff_eq_drop.1 hs2
    rw [List.length_cons, E1.out, ← hyz'] at this
    exact this.symm
   have HP := Lib.hid hpz
   have HPD := Lib.hid hpd
   have HYZ := Lib.hid hyz'
   clear hy hyl hyz hyz' hpz hpd
   go_upto_region 3 with (fail)
   rw [HP.out]
   generalize hpg : s.size - y.size = p at *
   have HPG := Lib.hid hpg
   clear hpg
   go_upto_region 6 with (fail)
   have hxd : (s.extract p s.size).data.toList = c0 :: r0 := by rw [drop_data, HPD.out]
   have hxz : (s.extract p s.size).size = r0.length + 1 := by
    have : (s.extract p s.size).data.toList.length = (s.extract p s.size).size := Array.length_toList
    rw [hxd, List.length_cons] at this; exact this.symm
   refine (first_any (s.extract p s.size) w2 (by omega) (by omega)).mono ?_
   rintro e w3 ⟨hres, hb3⟩
   rw [hxd] at hres
   have hl3 := blk_below (blk_below hinv.hl hb2) hb3
   have he3 := blk_below (blk_below hinv.he hb2) hb3
   have hr3 := Kd.R_below (Kd.R_below hinv.row hb2) hb3
   have hB3 := below_step (below_step hinv.bel hb2) hb3
   have hlex := hinv.lex
   have hlen := hinv.len
   obtain ⟨gk, rfl⟩ : ∃ g, gk = g + 1 := ⟨gk - 1, by omega⟩
   unfold HLex.lexFrom at hlex
   rw [HR.out] at hlex
   simp only [reduceCtorEq, if_false] at hlex
   have hpos : at_ + ((List.drop at_ s.data.toList).length - (c0 :: r0).length) = p := by
    rw [List.length_drop, List.length_cons, E1.out]
    have := HPG.out; have := HYZ.out; omega
   rw [hpos] at hlex
   cases hfs : HLex.first (c0 :: r0) with
   | error er =>
    rw [hfs] at hres hlex
    simp only at hres hlex
    subst hres
    refine leaves_cons (f := 36) (args := #[.pointer (some ⟨w.heap.size, 0, none⟩), .pointer (some ⟨w.heap.size + 1, 0, none⟩)]) (by simp) (by simp [go_sem]) ?_
    refine (catch_panicking w.heap.size (w.heap.size + 1) er lv (.int .i64 0) [] w3 hl3 he3 (by omega)).mono ?_
    rintro e u' w4 ⟨rfl, rfl, h2, h3, h4⟩
    have k2 := blk_cell h2 0; have k3 := blk_cell h3 0
    simp at k2 k3
    clear hfe hfl hcl hce hl3 he3
    simp [Leaves, settle, results, Tryz.results31, go_sem, k2, k3]
    unfold AllPost
    rw [hlex]
    exact ⟨rfl, hB3.trans (h4 _ (Nat.le_refl _) (by omega) hB3.size)⟩
   | ok ktn =>
    obtain ⟨k, tx, n⟩ := ktn
    rw [hfs] at hres hlex
    simp only at hres hlex
    subst hres
    simp only
    have hpre := HLex.first_prefix hfs
    have htx1 : tx.length ≤ r0.length + 1 := by have := hpre.1.length_le; rwa [List.length_cons] at this
    have htx0 : 0 < tx.length := List.length_pos_iff.2 hpre.2
    have hend : p + tx.length ≤ s.size := by have := HPG.out; have := HYZ.out; omega
    clear hpre
    go_upto_region 7 with (fail)
    have hl4 := blk_alloc hl3 (Obj.cells #[Value.int IntKind.i64 ↑k, Value.string { data := tx.toArray }, Value.int IntKind.i64 ↑n, Value.int IntKind.i64 ↑p] 49)
    have he4 := blk_alloc he3 (Obj.cells #[Value.int IntKind.i64 ↑k, Value.string { data := tx.toArray }, Value.int IntKind.i64 ↑n, Value.int IntKind.i64 ↑p] 49)
    have hr4 := Kd.R_alloc hr3 (Obj.cells #[Value.int IntKind.i64 ↑k, Value.string { data := tx.toArray }, Value.int IntKind.i64 ↑n, Value.int IntKind.i64 ↑p] 49)
    have hB4 := below_alloc hB3 (Obj.cells #[Value.int IntKind.i64 ↑k, Value.string { data := tx.toArray }, Value.int IntKind.i64 ↑n, Value.int IntKind.i64 ↑p] 49)
    have ht4 := blk_new w3 (Obj.cells #[Value.int IntKind.i64 ↑k, Value.string { data := tx.toArray }, Value.int IntKind.i64 ↑n, Value.int IntKind.i64 ↑p] 49)
    have hne4 : some w3.heap.size ≠ lv.ownBlock := fun e_ => by have := ((Kd.R_bound hr3).1 _ e_.symm).2.2.1; omega
    have c2 := blk_cell hl4 0
    have d0 := blk_cell ht4 0; have d1 := blk_cell ht4 1; have d2 := blk_cell ht4 2; have d3 := blk_cell ht4 3
    simp only [List.getElem?_toArray, List.getElem?_cons_zero, List.getElem?_cons_succ] at c2 d0 d1 d2 d3
    have hsz4 := hB4.size
    have hsz3 := hB3.size
    have hw3 : w.heap.size + 2 ≤ w3.heap.size := by have := blk_lt he3; omega
    have HL4 := Lib.hid hl4; have HE4 := Lib.hid he4; have HR4 := Lib.hid hr4; have HB4 := Lib.hid hB4; have HT4 := Lib.hid ht4; have HLEX := Lib.hid hlex; have HN4 := Lib.hid hne4
    clear hfe hfl hcl hce hl3 he3 hr3 hB3 hl4 he4 hr4 hB4 ht4 hlex hfs hpos hne4 hsz4
    have hlenm : ((List.map toS acc).length + 1) * 40 ≤ 140737488355328 := by rw [List.length_map]; omega
    go_wp2_with (at_builtin; go_loud (refine Kd.R_append k49 (w0 := w3.alloc (Obj.cells #[Value.int IntKind.i64 ↑k, Value.string { data := tx.toArray }, Value.int IntKind.i64 ↑n, Value.int IntKind.i64 ↑p] 49)) (w.heap.size + 2) rfl (.tmp 26) (.tmp 28) 44 49 (.agg #[(.int .i64 0), (.string ⟨#[]⟩), (.int .i64 0), (.int .i64 0)]) 40 rfl Tryz.underlying44 infoTok rfl (by decide) (by omega) lv (acc.map toS) (⟨(k : Int), ⟨tx.toArray⟩, (n : Int), (p : Int)⟩ : S49) [.int .i64 k, .string ⟨tx.toArray⟩, .int .i64 n, .int .i64 p] (fun _ => True) (fun _ => False) rfl (by first|(go_simp; done)|(go_simp; rfl)) (k49_mkM _ _ _ _) (fun _ hk => hk.elim) (fun _ _ => trivial) HR4.out (Below.refl _ _) (by simp; omega) hlenm ?_); intro v1 w5 ho hb hg hat; obtain ⟨A1, c1, rfl⟩ := Kd.R_slice ho; have hl5 := (hb.block w.heap.size (by omega)).trans HL4.out; have he5 := (hb.block (w.heap.size + 1) (by omega)).trans HE4.out; have ht5 := blk_grown HT4.out hg HN4.out; have e2 := blk_cell hl5 0; have f2 := blk_frozen hl5 0; have e5 := blk_cell ht5 1; simp only [List.getElem?_toArray, List.getElem?_cons_zero, List.getElem?_cons_succ] at e2 e5; have HL5 := Lib.hid hl5; have HE5 := Lib.hid he5; have HO := Lib.hid ho; have HBB := Lib.hid hb; clear hl5 he5 ht5 ho hb hg hat)
    go_roundg gk
    case measure => omega
    case rel =>
     refine ⟨p + tx.length, acc ++ [⟨k, tx, n, p⟩], .slice A1 (acc.length + 1) c1, by go_num, hend, by omega, ?_, ?_, ?_, ?_, ?_, ?_⟩
     ·rw [HLEX.out]
      have hd : List.drop (p + tx.length) s.data.toList = List.drop tx.length (c0 :: r0) := by rw [← HPD.out, List.drop_drop]
      rw [hd]
      cases HLex.lexFrom gk (p + tx.length) (List.drop tx.length (c0 :: r0)) with
      | ok ts => simp [join]
      | error e => simp [join]
     ·rw [List.length_append, List.length_singleton]; omega
     ·exact blk_put HL5.out 0 _ rfl
     ·exact blk_far (p := ⟨w.heap.size, 0, none⟩) HE5.out (by simp) _
     ·rw [List.map_append]
      have h := Kd.R_mono (Kd.R_far (p := ⟨w.heap.size, 0, none⟩) (Kd.R_bound HO.out) (fun k hk => by have := hk.2.1; simp; omega) (.slice A1 (acc.length + 1) c1)) (fun _ _ => trivial)
      simpa [List.length_map, toS] using h
     ·exact (HB4.out.trans (HBB.out.mono (by omega))).setCell (Nat.le_refl _) _
end Go.Proofs.YthdkjfhpbigdpaaGreatDoor.HLexC

namespace Go.Proofs.YthdkjfhpbigdpaaGreatDoor.Q
open Go.RowKit Go.Proofs.YthdkjfhpbigdpaaGreatDoorW.PrintWords Go.Proofs.YthdkjfhpbigdpaaGreatDoorW.PrintLast Go.Proofs.YthdkjfhpbigdpaaGreatDoorW.PrintMore
attribute [local go_sem] max2_int min2_int max_two min_two max_three min_three max_four min_four
set_option linter.unusedVariables false
set_option linter.unusedSimpArgs false

def lex_All.f (a0 : ByteArray) : Option ((List S49) × Int × Int) :=
 if a0.size ≤ 1000000000000 then
  match HLex.lex a0.data.toList with
  | .ok ts => some (ts.map HLexC.toS, 0, 0)
  | .error (p, er) => some ([], (p : Int), (er : Int))
 else none
theorem lex_All.calls (a0 : ByteArray) (r1 : List S49) (r2 : Int) (r3 : Int) (w : World) (h : lex_All.f a0 = some (r1, r2, r3)) :
  Calls Tryz.prog 31 #[.string a0] w fun e w' => ∃ v0_ : Value, e = .returned (.tuple #[v0_, .int .i64 r2, .int .i64 r3]) ∧ Kd.R k49 49 w' w.heap.size (fun _ => True) v0_ r1 ∧ Below w.heap.size w w' := by
 unfold lex_All.f at h
 by_cases hs : a0.size ≤ 1000000000000
 ·rw [if_pos hs] at h
  refine (HLexC.all_any a0 w hs).mono fun e w' hp => ?_
  unfold HLexC.AllPost at hp
  cases hl : HLex.lex a0.data.toList with
  | ok ts =>
   rw [hl] at h hp
   simp only [Option.some.injEq, Prod.mk.injEq] at h
   obtain ⟨rfl, rfl, rfl⟩ := h
   exact hp
  | error x =>
   obtain ⟨p, er⟩ := x
   rw [hl] at h hp
   simp only [Option.some.injEq, Prod.mk.injEq] at h
   obtain ⟨rfl, rfl, rfl⟩ := h
   exact ⟨_, hp.1, Kd.R_nil _ _ _ _ _, hp.2⟩
 ·rw [if_neg hs] at h; cases h

end Go.Proofs.YthdkjfhpbigdpaaGreatDoor.Q

namespace Go.Proofs.YthdkjfhpbigdpaaGreatDoor.Q
open Go.RowKit Go.Proofs.YthdkjfhpbigdpaaGreatDoorW.PrintWords Go.Proofs.YthdkjfhpbigdpaaGreatDoorW.PrintLast Go.Proofs.YthdkjfhpbigdpaaGreatDoorW.PrintMore
attribute [local go_sem] max2_int min2_int max_two min_two max_three min_three max_four min_four
set_option linter.unusedVariables false
set_option linter.unusedSimpArgs false

def tree_token.f (a0 : ByteArray) (a1 : Int) : Option (Bool) := (lex_All.f a0).bind fun bt136 => (if (bt136.1.length : Int) = 1 then (if 0 < (bt136.1.length : Int) then (if ((rd_T49 bt136.1 0).f0) = a1 then (some (((rd_T49 bt136.1 0).f1).toList == a0.toList)) else (some false)) else (none)) else (some false))
set_option maxHeartbeats 8000000 in
set_option maxRecDepth 100000 in
theorem tree_token.calls (a0 : ByteArray) (a1 : Int) (r : Bool) (w : World) (h : tree_token.f a0 a1 = some r) :
  Calls Tryz.prog 27 #[.string a0, .int .i64 a1] w fun e w' => e = .returned (.bool r) ∧ Below w.heap.size w w' := by
 have HB := Aside0.mk (Below.refl w.heap.size w)
 have H : ((lex_All.f a0).bind fun bt136 => (if (bt136.1.length : Int) = 1 then (if 0 < (bt136.1.length : Int) then (if ((rd_T49 bt136.1 0).f0) = a1 then (some (((rd_T49 bt136.1 0).f1).toList == a0.toList)) else (some false)) else (none)) else (some false))) = some r := h
 clear h
 replace H := Option.bind_eq_some_iff.mp H
 obtain ⟨⟨t136, t137, t138⟩, A30, H⟩ := H
 replace H : (if (t136.length : Int) = 1 then (if 0 < (t136.length : Int) then (if ((rd_T49 t136 0).f0) = a1 then (some (((rd_T49 t136 0).f1).toList == a0.toList)) else (some false)) else (none)) else (some false)) = some r := H
 have A3 := Aside0.mk A30
 clear A30
 by_cases c4 : (t136.length : Int) = 1
 ·rw [if_pos c4] at H
  have c4b0 : ((t136.length : Int) == 1) = true := beq_iff_eq.mpr c4
  have c4b1 : ((t136.length : Int) != 1) = false := bne_eq_false_iff_eq.mpr c4
  clear c4
  by_cases c5 : 0 < (t136.length : Int)
  ·rw [if_pos c5] at H
   have c5b0 : decide (0 < (t136.length : Int)) = true := decide_eq_true c5
   have c5b1 : decide (0 < t136.length) = true := decide_eq_true (by omega)
   clear c5
   by_cases c6 : ((rd_T49 t136 0).f0) = a1
   ·rw [if_pos c6] at H
    have c6b0 : (((rd_T49 t136 0).f0) == a1) = true := beq_iff_eq.mpr c6
    have c6b1 : (((rd_T49 t136 0).f0) != a1) = false := bne_eq_false_iff_eq.mpr c6
    clear c6
    obtain rfl := Option.some.inj H
    go_enter Tryz.func27, Tryz.ntmps27
    go_wp2_with (first|((with_reducible refine gate_callee (f := 31) rfl ?_); refine goesL_ (some 10) rfl rfl Tryz.func31 (by kernel_rfl) rfl #[.string a0] rfl (by (try simp only [List.map_toArray, List.map_cons, List.map_nil]); first|done|rfl|(simp only [List.length_drop, List.length_take]; rfl)) ?_; (with_reducible refine (lex_All.calls a0 t136 t137 t138 _ A3.out).mono ?_); rintro e w7 ⟨v139, rfl, ho0, hb⟩; refine ⟨_, rfl, ?_⟩; have n0_ := Aside0.mk (Kd.R_lower ho0 (below_size (by repeat (first|(with_reducible first|exact HB.out|apply below_alloc|apply pw_below_drewN|apply below_drew1)|exact HB.out)))); have n1_ := Aside0.mk (below_step (by repeat (first|(with_reducible first|exact HB.out|apply below_alloc|apply pw_below_drewN|apply below_drew1)|exact HB.out)) hb); clear HB; have HO140 := n0_; have HB := n1_; clear n0_ n1_; (try clear hb); (try clear hb2); (try clear hk); (try clear hi); (try clear ho0); obtain ⟨Ao8, co8, eo8⟩ := Kd.R_slice HO140.out; subst eo8; have p141 : 0 ≤ (0 : Int) := (by omega); have q141 : 0 < (t136.length : Int) := of_decide_eq_true (by first|(with_reducible assumption) | assumption); obtain ⟨ad141, e141, hx141_0, hx141_1, hx141_2, hx141_3⟩ := at_T49 (Kd.R_reads' HO140.out).2.2 0 p141 q141; cases e141; have qi141 : (0 < t136.length) = True := eq_true (by omega); (try rw [show ((0 : Int)).toNat = 0 from rfl] at hx141_0); (try rw [show 0 * 4 = 0 from rfl] at hx141_0); (try rw [Addr.add_zero'] at hx141_0); (try rw [show ((0 : Int)).toNat = 0 from rfl] at hx141_1); (try rw [show 0 * 4 = 0 from rfl] at hx141_1); (try rw [Addr.add_zero'] at hx141_1); (try rw [show ((0 : Int)).toNat = 0 from rfl] at hx141_2); (try rw [show 0 * 4 = 0 from rfl] at hx141_2); (try rw [Addr.add_zero'] at hx141_2); (try rw [show ((0 : Int)).toNat = 0 from rfl] at hx141_3); (try rw [show 0 * 4 = 0 from rfl] at hx141_3); (try rw [Addr.add_zero'] at hx141_3); replace p141 := eq_true p141; replace q141 := eq_true q141; have p142 : 0 ≤ (0 : Int) := (by omega); have q142 : 0 < (t136.length : Int) := of_decide_eq_true (by first|(with_reducible assumption) | assumption); obtain ⟨ad142, e142, hx142_0, hx142_1, hx142_2, hx142_3⟩ := at_T49 (Kd.R_reads' HO140.out).2.2 0 p142 q142; obtain rfl : ad141 = ad142 := (by injection e142); have qi142 : (0 < t136.length) = True := eq_true (by omega); (try rw [show ((0 : Int)).toNat = 0 from rfl] at hx142_0); (try rw [show 0 * 4 = 0 from rfl] at hx142_0); (try rw [Addr.add_zero'] at hx142_0); (try rw [show ((0 : Int)).toNat = 0 from rfl] at hx142_1); (try rw [show 0 * 4 = 0 from rfl] at hx142_1); (try rw [Addr.add_zero'] at hx142_1); (try rw [show ((0 : Int)).toNat = 0 from rfl] at hx142_2); (try rw [show 0 * 4 = 0 from rfl] at hx142_2); (try rw [Addr.add_zero'] at hx142_2); (try rw [show ((0 : Int)).toNat = 0 from rfl] at hx142_3); (try rw [show 0 * 4 = 0 from rfl] at hx142_3); (try rw [Addr.add_zero'] at hx142_3); replace p142 := eq_true p142; replace q142 := eq_true q142))
    go_ret
    exact ⟨by first|rfl|(simp [errW_none, errW_some] <;> rfl)|(simp [*, errW_none, errW_some] <;> rfl), by repeat (first|(with_reducible first|exact HB.out|apply below_alloc|apply pw_below_drewN|apply below_drew1)|exact HB.out)⟩
   ·rw [if_neg c6] at H
    have c6b0 : (((rd_T49 t136 0).f0) == a1) = false := beq_eq_false_iff_ne.mpr c6
    have c6b1 : (((rd_T49 t136 0).f0) != a1) = true := bne_iff_ne.mpr c6
    obtain rfl := Option.some.inj H
    go_enter Tryz.func27, Tryz.ntmps27
    go_wp2_with (first|((with_reducible refine gate_callee (f := 31) rfl ?_); refine goesL_ (some 10) rfl rfl Tryz.func31 (by kernel_rfl) rfl #[.string a0] rfl (by (try simp only [List.map_toArray, List.map_cons, List.map_nil]); first|done|rfl|(simp only [List.length_drop, List.length_take]; rfl)) ?_; (with_reducible refine (lex_All.calls a0 t136 t137 t138 _ A3.out).mono ?_); rintro e w9 ⟨v139, rfl, ho0, hb⟩; refine ⟨_, rfl, ?_⟩; have n0_ := Aside0.mk (Kd.R_lower ho0 (below_size (by repeat (first|(with_reducible first|exact HB.out|apply below_alloc|apply pw_below_drewN|apply below_drew1)|exact HB.out)))); have n1_ := Aside0.mk (below_step (by repeat (first|(with_reducible first|exact HB.out|apply below_alloc|apply pw_below_drewN|apply below_drew1)|exact HB.out)) hb); clear HB; have HO140 := n0_; have HB := n1_; clear n0_ n1_; (try clear hb); (try clear hb2); (try clear hk); (try clear hi); (try clear ho0); obtain ⟨Ao10, co10, eo10⟩ := Kd.R_slice HO140.out; subst eo10; have p141 : 0 ≤ (0 : Int) := (by omega); have q141 : 0 < (t136.length : Int) := of_decide_eq_true (by first|(with_reducible assumption) | assumption); obtain ⟨ad141, e141, hx141_0, hx141_1, hx141_2, hx141_3⟩ := at_T49 (Kd.R_reads' HO140.out).2.2 0 p141 q141; cases e141; have qi141 : (0 < t136.length) = True := eq_true (by omega); (try rw [show ((0 : Int)).toNat = 0 from rfl] at hx141_0); (try rw [show 0 * 4 = 0 from rfl] at hx141_0); (try rw [Addr.add_zero'] at hx141_0); (try rw [show ((0 : Int)).toNat = 0 from rfl] at hx141_1); (try rw [show 0 * 4 = 0 from rfl] at hx141_1); (try rw [Addr.add_zero'] at hx141_1); (try rw [show ((0 : Int)).toNat = 0 from rfl] at hx141_2); (try rw [show 0 * 4 = 0 from rfl] at hx141_2); (try rw [Addr.add_zero'] at hx141_2); (try rw [show ((0 : Int)).toNat = 0 from rfl] at hx141_3); (try rw [show 0 * 4 = 0 from rfl] at hx141_3); (try rw [Addr.add_zero'] at hx141_3); replace p141 := eq_true p141; replace q141 := eq_true q141))
    go_ret
    exact ⟨by first|rfl|(simp [errW_none, errW_some] <;> rfl)|(simp [*, errW_none, errW_some] <;> rfl), by repeat (first|(with_reducible first|exact HB.out|apply below_alloc|apply pw_below_drewN|apply below_drew1)|exact HB.out)⟩
  ·rw [if_neg c5] at H
   exact absurd H (by simp)
 ·rw [if_neg c4] at H
  have c4b0 : ((t136.length : Int) == 1) = false := beq_eq_false_iff_ne.mpr c4
  have c4b1 : ((t136.length : Int) != 1) = true := bne_iff_ne.mpr c4
  obtain rfl := Option.some.inj H
  go_enter Tryz.func27, Tryz.ntmps27
  go_wp2_with (first|((with_reducible refine gate_callee (f := 31) rfl ?_); refine goesL_ (some 10) rfl rfl Tryz.func31 (by kernel_rfl) rfl #[.string a0] rfl (by (try simp only [List.map_toArray, List.map_cons, List.map_nil]); first|done|rfl|(simp only [List.length_drop, List.length_take]; rfl)) ?_; (with_reducible refine (lex_All.calls a0 t136 t137 t138 _ A3.out).mono ?_); rintro e w11 ⟨v139, rfl, ho0, hb⟩; refine ⟨_, rfl, ?_⟩; have n0_ := Aside0.mk (Kd.R_lower ho0 (below_size (by repeat (first|(with_reducible first|exact HB.out|apply below_alloc|apply pw_below_drewN|apply below_drew1)|exact HB.out)))); have n1_ := Aside0.mk (below_step (by repeat (first|(with_reducible first|exact HB.out|apply below_alloc|apply pw_below_drewN|apply below_drew1)|exact HB.out)) hb); clear HB; have HO140 := n0_; have HB := n1_; clear n0_ n1_; (try clear hb); (try clear hb2); (try clear hk); (try clear hi); (try clear ho0); obtain ⟨Ao12, co12, eo12⟩ := Kd.R_slice HO140.out; subst eo12))
  go_ret
  exact ⟨by first|rfl|(simp [errW_none, errW_some] <;> rfl)|(simp [*, errW_none, errW_some] <;> rfl), by repeat (first|(with_reducible first|exact HB.out|apply below_alloc|apply pw_below_drewN|apply below_drew1)|exact HB.out)⟩

end Go.Proofs.YthdkjfhpbigdpaaGreatDoor.Q

namespace Go.Proofs.YthdkjfhpbigdpaaGreatDoor.Q
open Go.RowKit Go.Proofs.YthdkjfhpbigdpaaGreatDoorW.PrintWords Go.Proofs.YthdkjfhpbigdpaaGreatDoorW.PrintLast Go.Proofs.YthdkjfhpbigdpaaGreatDoorW.PrintMore
attribute [local go_sem] max2_int min2_int max_two min_two max_three min_three max_four min_four
set_option linter.unusedVariables false
set_option linter.unusedSimpArgs false

def tree_number.f (a0_0 : Int) (a0_1 : ByteArray) (a0_2 : Int) (a0_3 : Int) (l0_4 : List (S24)) : Option (Bool) := if a0_0 = 9 then (if a0_2 ≥ 0 then (some (decide (a0_2 ≤ 999999999999999999))) else (some false)) else (if a0_0 = 8 then (some (a0_2 == (wrap64 ((l0_4.length : Int) - 1)))) else (some (a0_2 == 0)))
set_option maxHeartbeats 8000000 in
set_option maxRecDepth 100000 in
theorem tree_number.calls (a0_0 : Int) (a0_1 : ByteArray) (a0_2 : Int) (a0_3 : Int) (A0_4 : Option Addr) (c0_4 : Nat) (l0_4 : List (S24)) (r : Bool) (w : World) (hr0_4 : Kd.C k24 w A0_4 l0_4.length l0_4) (hc0_4 : l0_4.length ≤ c0_4) (h : tree_number.f a0_0 a0_1 a0_2 a0_3 l0_4 = some r) :
  Calls Tryz.prog 23 #[.agg #[.int .i64 a0_0, .string a0_1, .int .i64 a0_2, .int .i64 a0_3, .slice A0_4 l0_4.length c0_4]] w fun e w' => e = .returned (.bool r) ∧ Below w.heap.size w w' := by
 have hu24 := Tryz.underlying24
 have HR0_4 := Aside0.mk hr0_4
 have HC0_4 := Aside0.mk hc0_4
 clear hr0_4 hc0_4
 have HB := Aside0.mk (Below.refl w.heap.size w)
 have H : (if a0_0 = 9 then (if a0_2 ≥ 0 then (some (decide (a0_2 ≤ 999999999999999999))) else (some false)) else (if a0_0 = 8 then (some (a0_2 == (wrap64 ((l0_4.length : Int) - 1)))) else (some (a0_2 == 0)))) = some r := h
 clear h
 by_cases c2 : a0_0 = 9
 ·rw [if_pos c2] at H
  have c2b0 : (a0_0 == 9) = true := beq_iff_eq.mpr c2
  have c2b1 : (a0_0 != 9) = false := bne_eq_false_iff_eq.mpr c2
  clear c2
  by_cases c3 : a0_2 ≥ 0
  ·rw [if_pos c3] at H
   have c3b0 : decide (0 ≤ a0_2) = true := decide_eq_true c3
   clear c3
   obtain rfl := Option.some.inj H
   go_enter Tryz.func23, Tryz.ntmps23
   go_wp2_with (first|((with_reducible refine gate_dst (N := 1) rfl ?_); refine box_event ?hg (N := 1) ?hd (cs := #[.int .i64 a0_0, .string a0_1, .int .i64 a0_2, .int .i64 a0_3, .slice A0_4 l0_4.length c0_4]) (t := 24) ?hr ?_; (case hd => rfl); (case hg => rfl); (case hr => first|(go_simp; done)|(go_simp; rfl)); intro gb135 hg w4 hbox hb; have n0_ := Aside0.mk (below_step (by repeat (first|(with_reducible first|exact HB.out|apply below_alloc|apply pw_below_drewN|apply below_drew1)|exact HB.out)) hb); have n1_ := Aside0.mk (hbox); have n2_ := Aside0.mk ((by rw [hg]; exact (below_size (by repeat (first|(with_reducible first|exact HB.out|apply below_alloc|apply pw_below_drewN|apply below_drew1)|exact HB.out))) : w.heap.size ≤ gb135)); have n3_ := Aside0.mk ((by rw [hg]; exact (below_size (by repeat (first|(with_reducible first|exact HB.out|apply below_alloc|apply pw_below_drewN|apply below_drew1)|exact HB.out))) : w.heap.size ≤ gb135)); clear HB; have HB := n0_; have BK135 := n1_; have GW135 := n2_; have GE135 := n3_; clear n0_ n1_ n2_ n3_; clear hb hbox hg; have hcz5_0 : w4.cell? ⟨gb135, 0, none⟩ = some (.int .i64 a0_0) := (blk_cell BK135.out 0).trans rfl; have hcz5_1 : w4.cell? ⟨gb135, 1, none⟩ = some (.string a0_1) := (blk_cell BK135.out 1).trans rfl; have hcz5_2 : w4.cell? ⟨gb135, 2, none⟩ = some (.int .i64 a0_2) := (blk_cell BK135.out 2).trans rfl; have hcz5_3 : w4.cell? ⟨gb135, 3, none⟩ = some (.int .i64 a0_3) := (blk_cell BK135.out 3).trans rfl; have hcz5_4 : w4.cell? ⟨gb135, 4, none⟩ = some (.slice A0_4 l0_4.length c0_4) := (blk_cell BK135.out 4).trans rfl; have hfz5_0 := blk_frozen BK135.out 0; have hfz5_1 := blk_frozen BK135.out 1; have hfz5_2 := blk_frozen BK135.out 2; have hfz5_3 := blk_frozen BK135.out 3; have hfz5_4 := blk_frozen BK135.out 4))
   go_ret
   exact ⟨by first|rfl|(simp [errW_none, errW_some] <;> rfl)|(simp [*, errW_none, errW_some] <;> rfl), by repeat (first|(with_reducible first|exact HB.out|apply below_alloc|apply pw_below_drewN|apply below_drew1|refine below_set ?_ GE135.out)|exact HB.out)⟩
  ·rw [if_neg c3] at H
   have c3b0 : decide (0 ≤ a0_2) = false := decide_eq_false c3
   clear c3
   obtain rfl := Option.some.inj H
   go_enter Tryz.func23, Tryz.ntmps23
   go_wp2_with (first|((with_reducible refine gate_dst (N := 1) rfl ?_); refine box_event ?hg (N := 1) ?hd (cs := #[.int .i64 a0_0, .string a0_1, .int .i64 a0_2, .int .i64 a0_3, .slice A0_4 l0_4.length c0_4]) (t := 24) ?hr ?_; (case hd => rfl); (case hg => rfl); (case hr => first|(go_simp; done)|(go_simp; rfl)); intro gb135 hg w6 hbox hb; have n0_ := Aside0.mk (below_step (by repeat (first|(with_reducible first|exact HB.out|apply below_alloc|apply pw_below_drewN|apply below_drew1)|exact HB.out)) hb); have n1_ := Aside0.mk (hbox); have n2_ := Aside0.mk ((by rw [hg]; exact (below_size (by repeat (first|(with_reducible first|exact HB.out|apply below_alloc|apply pw_below_drewN|apply below_drew1)|exact HB.out))) : w.heap.size ≤ gb135)); have n3_ := Aside0.mk ((by rw [hg]; exact (below_size (by repeat (first|(with_reducible first|exact HB.out|apply below_alloc|apply pw_below_drewN|apply below_drew1)|exact HB.out))) : w.heap.size ≤ gb135)); clear HB; have HB := n0_; have BK135 := n1_; have GW135 := n2_; have GE135 := n3_; clear n0_ n1_ n2_ n3_; clear hb hbox hg; have hcz7_0 : w6.cell? ⟨gb135, 0, none⟩ = some (.int .i64 a0_0) := (blk_cell BK135.out 0).trans rfl; have hcz7_1 : w6.cell? ⟨gb135, 1, none⟩ = some (.string a0_1) := (blk_cell BK135.out 1).trans rfl; have hcz7_2 : w6.cell? ⟨gb135, 2, none⟩ = some (.int .i64 a0_2) := (blk_cell BK135.out 2).trans rfl; have hcz7_3 : w6.cell? ⟨gb135, 3, none⟩ = some (.int .i64 a0_3) := (blk_cell BK135.out 3).trans rfl; have hcz7_4 : w6.cell? ⟨gb135, 4, none⟩ = some (.slice A0_4 l0_4.length c0_4) := (blk_cell BK135.out 4).trans rfl; have hfz7_0 := blk_frozen BK135.out 0; have hfz7_1 := blk_frozen BK135.out 1; have hfz7_2 := blk_frozen BK135.out 2; have hfz7_3 := blk_frozen BK135.out 3; have hfz7_4 := blk_frozen BK135.out 4))
   go_ret
   exact ⟨by first|rfl|(simp [errW_none, errW_some] <;> rfl)|(simp [*, errW_none, errW_some] <;> rfl), by repeat (first|(with_reducible first|exact HB.out|apply below_alloc|apply pw_below_drewN|apply below_drew1|refine below_set ?_ GE135.out)|exact HB.out)⟩
 ·rw [if_neg c2] at H
  have c2b0 : (a0_0 == 9) = false := beq_eq_false_iff_ne.mpr c2
  have c2b1 : (a0_0 != 9) = true := bne_iff_ne.mpr c2
  by_cases c8 : a0_0 = 8
  ·rw [if_pos c8] at H
   have c8b0 : (a0_0 == 8) = true := beq_iff_eq.mpr c8
   have c8b1 : (a0_0 != 8) = false := bne_eq_false_iff_eq.mpr c8
   clear c8
   obtain rfl := Option.some.inj H
   go_enter Tryz.func23, Tryz.ntmps23
   go_wp2_with (first|((with_reducible refine gate_dst (N := 1) rfl ?_); refine box_event ?hg (N := 1) ?hd (cs := #[.int .i64 a0_0, .string a0_1, .int .i64 a0_2, .int .i64 a0_3, .slice A0_4 l0_4.length c0_4]) (t := 24) ?hr ?_; (case hd => rfl); (case hg => rfl); (case hr => first|(go_simp; done)|(go_simp; rfl)); intro gb135 hg w9 hbox hb; have n0_ := Aside0.mk (below_step (by repeat (first|(with_reducible first|exact HB.out|apply below_alloc|apply pw_below_drewN|apply below_drew1)|exact HB.out)) hb); have n1_ := Aside0.mk (hbox); have n2_ := Aside0.mk ((by rw [hg]; exact (below_size (by repeat (first|(with_reducible first|exact HB.out|apply below_alloc|apply pw_below_drewN|apply below_drew1)|exact HB.out))) : w.heap.size ≤ gb135)); have n3_ := Aside0.mk ((by rw [hg]; exact (below_size (by repeat (first|(with_reducible first|exact HB.out|apply below_alloc|apply pw_below_drewN|apply below_drew1)|exact HB.out))) : w.heap.size ≤ gb135)); clear HB; have HB := n0_; have BK135 := n1_; have GW135 := n2_; have GE135 := n3_; clear n0_ n1_ n2_ n3_; clear hb hbox hg; have hcz10_0 : w9.cell? ⟨gb135, 0, none⟩ = some (.int .i64 a0_0) := (blk_cell BK135.out 0).trans rfl; have hcz10_1 : w9.cell? ⟨gb135, 1, none⟩ = some (.string a0_1) := (blk_cell BK135.out 1).trans rfl; have hcz10_2 : w9.cell? ⟨gb135, 2, none⟩ = some (.int .i64 a0_2) := (blk_cell BK135.out 2).trans rfl; have hcz10_3 : w9.cell? ⟨gb135, 3, none⟩ = some (.int .i64 a0_3) := (blk_cell BK135.out 3).trans rfl; have hcz10_4 : w9.cell? ⟨gb135, 4, none⟩ = some (.slice A0_4 l0_4.length c0_4) := (blk_cell BK135.out 4).trans rfl; have hfz10_0 := blk_frozen BK135.out 0; have hfz10_1 := blk_frozen BK135.out 1; have hfz10_2 := blk_frozen BK135.out 2; have hfz10_3 := blk_frozen BK135.out 3; have hfz10_4 := blk_frozen BK135.out 4))
   go_ret
   exact ⟨by first|rfl|(simp [errW_none, errW_some] <;> rfl)|(simp [*, errW_none, errW_some] <;> rfl), by repeat (first|(with_reducible first|exact HB.out|apply below_alloc|apply pw_below_drewN|apply below_drew1|refine below_set ?_ GE135.out)|exact HB.out)⟩
  ·rw [if_neg c8] at H
   have c8b0 : (a0_0 == 8) = false := beq_eq_false_iff_ne.mpr c8
   have c8b1 : (a0_0 != 8) = true := bne_iff_ne.mpr c8
   obtain rfl := Option.some.inj H
   go_enter Tryz.func23, Tryz.ntmps23
   go_wp2_with (first|((with_reducible refine gate_dst (N := 1) rfl ?_); refine box_event ?hg (N := 1) ?hd (cs := #[.int .i64 a0_0, .string a0_1, .int .i64 a0_2, .int .i64 a0_3, .slice A0_4 l0_4.length c0_4]) (t := 24) ?hr ?_; (case hd => rfl); (case hg => rfl); (case hr => first|(go_simp; done)|(go_simp; rfl)); intro gb135 hg w11 hbox hb; have n0_ := Aside0.mk (below_step (by repeat (first|(with_reducible first|exact HB.out|apply below_alloc|apply pw_below_drewN|apply below_drew1)|exact HB.out)) hb); have n1_ := Aside0.mk (hbox); have n2_ := Aside0.mk ((by rw [hg]; exact (below_size (by repeat (first|(with_reducible first|exact HB.out|apply below_alloc|apply pw_below_drewN|apply below_drew1)|exact HB.out))) : w.heap.size ≤ gb135)); have n3_ := Aside0.mk ((by rw [hg]; exact (below_size (by repeat (first|(with_reducible first|exact HB.out|apply below_alloc|apply pw_below_drewN|apply below_drew1)|exact HB.out))) : w.heap.size ≤ gb135)); clear HB; have HB := n0_; have BK135 := n1_; have GW135 := n2_; have GE135 := n3_; clear n0_ n1_ n2_ n3_; clear hb hbox hg; have hcz12_0 : w11.cell? ⟨gb135, 0, none⟩ = some (.int .i64 a0_0) := (blk_cell BK135.out 0).trans rfl; have hcz12_1 : w11.cell? ⟨gb135, 1, none⟩ = some (.string a0_1) := (blk_cell BK135.out 1).trans rfl; have hcz12_2 : w11.cell? ⟨gb135, 2, none⟩ = some (.int .i64 a0_2) := (blk_cell BK135.out 2).trans rfl; have hcz12_3 : w11.cell? ⟨gb135, 3, none⟩ = some (.int .i64 a0_3) := (blk_cell BK135.out 3).trans rfl; have hcz12_4 : w11.cell? ⟨gb135, 4, none⟩ = some (.slice A0_4 l0_4.length c0_4) := (blk_cell BK135.out 4).trans rfl; have hfz12_0 := blk_frozen BK135.out 0; have hfz12_1 := blk_frozen BK135.out 1; have hfz12_2 := blk_frozen BK135.out 2; have hfz12_3 := blk_frozen BK135.out 3; have hfz12_4 := blk_frozen BK135.out 4))
   go_ret
   exact ⟨by first|rfl|(simp [errW_none, errW_some] <;> rfl)|(simp [*, errW_none, errW_some] <;> rfl), by repeat (first|(with_reducible first|exact HB.out|apply below_alloc|apply pw_below_drewN|apply below_drew1|refine below_set ?_ GE135.out)|exact HB.out)⟩

end Go.Proofs.YthdkjfhpbigdpaaGreatDoor.Q

/- Plain Lean: trees, and what layer 2 tells of them. No program in sight, but for the printed type of trees. -/
namespace Go.Proofs.YthdkjfhpbigdpaaGreatDoor.HTree
open Go.Proofs.YthdkjfhpbigdpaaGreatDoor.Q
abbrev T := S24
mutual
def height : T → Nat
 | ⟨_, _, _, _, l⟩ => heights l + 1
def heights : List T → Nat
 | [] => 0
 | x :: r => max (height x) (heights r)
end
mutual
def size : T → Nat
 | ⟨_, _, _, _, l⟩ => sizes l + 1
def sizes : List T → Nat
 | [] => 0
 | x :: r => size x + sizes r
end
mutual
def wt : T → Nat
 | ⟨_, s, _, _, l⟩ => s.size + 1 + wts l
def wts : List T → Nat
 | [] => 0
 | x :: r => wt x + wts r
end
mutual
def Ok : T → Prop
 | ⟨k, _, n, a, l⟩ => (Go.Lit.int .i64 k).wf = true ∧ (Go.Lit.int .i64 n).wf = true ∧ (Go.Lit.int .i64 a).wf = true ∧ Oks l
def Oks : List T → Prop
 | [] => True
 | x :: r => Ok x ∧ Oks r
end
def token (s : ByteArray) (k : Nat) : Bool := match HLex.lex s.data.toList with
 | .ok [t] => decide (t.kind = k) && decide (t.text = s.data.toList)
 | _ => false
def oper (s : ByteArray) : Bool := [[43], [45], [42], [47], [60], [61, 61]].contains s.data.toList
def what (k : Int) : Int := if k = 1 ∨ k = 2 ∨ k = 4 ∨ k = 5 then 1 else if k = 6 ∨ k = 8 then 2 else if k = 10 then 3 else 0
def named (s : ByteArray) (w : Int) : Bool := if w = 1 then token s 1 else if w = 2 then token s 2 else if w = 3 then oper s else decide (s.data.toList = [])
def least (k : Int) : Int := if k = 2 ∨ k = 8 then 1 else if k = 3 ∨ k = 4 ∨ k = 5 ∨ k = 7 ∨ k = 10 then 2 else 0
def most (k : Int) : Int := if k = 2 then 1 else if k = 3 ∨ k = 4 ∨ k = 5 ∨ k = 10 then 2 else if k = 6 then 8 else if k = 7 ∨ k = 8 then 9 else 0
def number (k n : Int) (len : Nat) : Bool := if k = 9 then decide (0 ≤ n) && decide (n ≤ 999999999999999999) else if k = 8 then decide (n = (len : Int) - 1) else decide (n = 0)
mutual
def may : T → Bool
 | ⟨k, s, n, a, l⟩ => decide (1 ≤ k) && decide (k ≤ 10) && decide (least k ≤ (l.length : Int)) && decide ((l.length : Int) ≤ most k) && named s (what k) && number k n l.length && decide (0 ≤ a) && parts k n l 0
def parts : Int → Int → List T → Int → Bool
 | _, _, [], _ => true
 | k, n, ⟨k', s', n', a', l'⟩ :: r, i => (if k = 7 ∧ 0 < i then decide (k' = 8) && may ⟨k', s', n', a', l'⟩ else if k = 8 ∧ i < n ∧ k' ≠ 1 then false else decide (k' ≠ 8) && may ⟨k', s', n', a', l'⟩) && parts k n r (i + 1)
end
def part (k n : Int) (x : T) (i : Int) : Bool := if k = 7 ∧ 0 < i then decide (x.f0 = 8) && may x else if k = 8 ∧ i < n ∧ x.f0 ≠ 1 then false else decide (x.f0 ≠ 8) && may x
def whole (x : T) : Bool := decide (x.f0 ≠ 8) && may x
mutual
def same : T → T → Bool
 | ⟨k, s, n, _, l⟩, ⟨k', s', n', _, l'⟩ => decide (k = k') && decide (s.data.toList = s'.data.toList) && decide (n = n') && sames l l'
def sames : List T → List T → Bool
 | [], [] => true
 | x :: r, y :: r' => same x y && sames r r'
 | _, _ => false
end
mutual
def one : T → T → Bool
 | ⟨k, s, n, a, l⟩, ⟨k', s', n', a', l'⟩ => decide (k = k') && decide (s.data.toList = s'.data.toList) && decide (n = n') && decide (a = a') && ones l l'
def ones : List T → List T → Bool
 | [], [] => true
 | x :: r, y :: r' => one x y && ones r r'
 | _, _ => false
end
mutual
def bare : T → T
 | ⟨k, s, n, _, l⟩ => ⟨k, s, n, 0, bares l⟩
def bares : List T → List T
 | [] => []
 | x :: r => bare x :: bares r
end
theorem height_get {l : List T} {x : T} (h : x ∈ l) : height x ≤ heights l := by
 induction l with
 | nil => cases h
 | cons y r ih =>
  simp only [heights]
  rcases List.mem_cons.1 h with rfl | h
  ·omega
  ·have := ih h; omega
theorem wt_get {l : List T} {x : T} (h : x ∈ l) : wt x ≤ wts l := by
 induction l with
 | nil => cases h
 | cons y r ih =>
  simp only [wts]
  rcases List.mem_cons.1 h with rfl | h
  ·omega
  ·have := ih h; omega
theorem wt_pos : ∀ x : T, 1 ≤ wt x
 | ⟨_, _, _, _, _⟩ => by simp only [wt]; omega
theorem len_wts : ∀ l : List T, l.length ≤ wts l
 | [] => Nat.le_refl _
 | x :: r => by have := len_wts r; have := wt_pos x; simp only [wts, List.length_cons]; omega
theorem parts_cons (k n : Int) (x : T) (r : List T) (i : Int) : parts k n (x :: r) i = (part k n x i && parts k n r (i + 1)) := by cases x; rfl
end Go.Proofs.YthdkjfhpbigdpaaGreatDoor.HTree

namespace Go.Proofs.YthdkjfhpbigdpaaGreatDoor.Pure
open Go Go.RowKit Go.Lib Go.Proofs Go.Proofs.YthdkjfhpbigdpaaGreatDoorW.PrintWords Go.Proofs.YthdkjfhpbigdpaaGreatDoorW.PrintLast Go.Proofs.YthdkjfhpbigdpaaGreatDoorW.PrintMore
namespace TreeMap
set_option linter.unusedVariables false
set_option linter.unusedSimpArgs false
def ent (k a b c : Int) (born : Nat) : MapEntry := { key := .int .i64 k, val := .agg #[.int .i64 a, .int .i64 b, .int .i64 c], born := born }
def rows : List (Int × Int × Int) := [(1, 0, 0), (1, 1, 1), (0, 2, 2), (1, 2, 2), (1, 2, 2), (2, 0, 8), (0, 2, 9), (2, 1, 9), (0, 0, 0), (3, 2, 2)]
def ents (n : Nat) : Array MapEntry := ((rows.take n).zipIdx.map fun (r, i) => ent ((i : Int) + 1) r.1 r.2.1 r.2.2 i).toArray
theorem hm : Tryz.prog.underlying 38 = some (.map 3 36) := by kernel_rfl
theorem hd : Tryz.prog.underlying 3 = some (.int .i64) := by kernel_rfl
theorem push_set {α : Type} (a : Array α) (x y : α) : (a.push x).setIfInBounds a.size y = a.push y := by
 apply Array.ext'
 simp
theorem setLast (w : World) (o o' : Obj) : { (w.alloc o) with heap := (w.alloc o).heap.setIfInBounds w.heap.size o' } = w.alloc o' := by
 cases w; simp only [World.alloc, push_set]
theorem ins (w : World) (es : Array MapEntry) (c : Nat) (k : Int) (v : Value) (h : Instr.findNow (.int .i64) (.int .i64 k) es.toList 0 = some none) :
  (Instr.mapUpdate 38 (.map (some w.heap.size)) (.int .i64 k) v).run Tryz.prog (w.alloc (.map es c)) = .ok () (w.alloc (.map (es.push { key := .int .i64 k, val := v, born := c }) (c + 1))) := by
 have hb : (w.alloc (.map es c)).heap[w.heap.size]? = some (.map es c) := by
  show (w.heap.push (.map es c))[w.heap.size]? = _
  simp
 have hk : MapKept.IsKey (.int .i64) (.int .i64 k) := rfl
 simp only [Instr.mapUpdate, Sem.run_bind, run_underlying hm, MapKept.run_getObj_map hb, MapKept.run_checkKey hd hk, MapKept.run_findKey hd h, MapKept.run_setObj_map _ hb, Result.andThen, setLast]
theorem insN (w : World) (n : Nat) (hn : n < 10) : (Instr.mapUpdate 38 (.map (some w.heap.size)) (.int .i64 ((n : Int) + 1)) (.agg #[.int .i64 (rows.getD n (0, 0, 0)).1, .int .i64 (rows.getD n (0, 0, 0)).2.1, .int .i64 (rows.getD n (0, 0, 0)).2.2])).run Tryz.prog (w.alloc (.map (ents n) n)) = .ok () (w.alloc (.map (ents (n + 1)) (n + 1))) := by
 have : n = 0 ∨ n = 1 ∨ n = 2 ∨ n = 3 ∨ n = 4 ∨ n = 5 ∨ n = 6 ∨ n = 7 ∨ n = 8 ∨ n = 9 := by omega
 rcases this with rfl|rfl|rfl|rfl|rfl|rfl|rfl|rfl|rfl|rfl <;> (rw [ins w _ _ _ _ (by rfl)]; rfl)
set_option maxRecDepth 100000 in
theorem shapes_any (w : World) : Calls Tryz.prog 21 #[] w fun e w' => e = .returned (.map (some w.heap.size)) ∧ w' = w.alloc (.map (ents 10) 10) := by
 have i0 : (Instr.mapUpdate 38 (.map (some w.heap.size)) (.int .i64 1) (.agg #[.int .i64 1, .int .i64 0, .int .i64 0])).run Tryz.prog (w.alloc (.map (ents 0) 0)) = .ok () (w.alloc (.map (ents 1) 1)) := insN w 0 (by omega)
 have i1 : (Instr.mapUpdate 38 (.map (some w.heap.size)) (.int .i64 2) (.agg #[.int .i64 1, .int .i64 1, .int .i64 1])).run Tryz.prog (w.alloc (.map (ents 1) 1)) = .ok () (w.alloc (.map (ents 2) 2)) := insN w 1 (by omega)
 have i2 : (Instr.mapUpdate 38 (.map (some w.heap.size)) (.int .i64 3) (.agg #[.int .i64 0, .int .i64 2, .int .i64 2])).run Tryz.prog (w.alloc (.map (ents 2) 2)) = .ok () (w.alloc (.map (ents 3) 3)) := insN w 2 (by omega)
 have i3 : (Instr.mapUpdate 38 (.map (some w.heap.size)) (.int .i64 4) (.agg #[.int .i64 1, .int .i64 2, .int .i64 2])).run Tryz.prog (w.alloc (.map (ents 3) 3)) = .ok () (w.alloc (.map (ents 4) 4)) := insN w 3 (by omega)
 have i4 : (Instr.mapUpdate 38 (.map (some w.heap.size)) (.int .i64 5) (.agg #[.int .i64 1, .int .i64 2, .int .i64 2])).run Tryz.prog (w.alloc (.map (ents 4) 4)) = .ok () (w.alloc (.map (ents 5) 5)) := insN w 4 (by omega)
 have i5 : (Instr.mapUpdate 38 (.map (some w.heap.size)) (.int .i64 6) (.agg #[.int .i64 2, .int .i64 0, .int .i64 8])).run Tryz.prog (w.alloc (.map (ents 5) 5)) = .ok () (w.alloc (.map (ents 6) 6)) := insN w 5 (by omega)
 have i6 : (Instr.mapUpdate 38 (.map (some w.heap.size)) (.int .i64 7) (.agg #[.int .i64 0, .int .i64 2, .int .i64 9])).run Tryz.prog (w.alloc (.map (ents 6) 6)) = .ok () (w.alloc (.map (ents 7) 7)) := insN w 6 (by omega)
 have i7 : (Instr.mapUpdate 38 (.map (some w.heap.size)) (.int .i64 8) (.agg #[.int .i64 2, .int .i64 1, .int .i64 9])).run Tryz.prog (w.alloc (.map (ents 7) 7)) = .ok () (w.alloc (.map (ents 8) 8)) := insN w 7 (by omega)
 have i8 : (Instr.mapUpdate 38 (.map (some w.heap.size)) (.int .i64 9) (.agg #[.int .i64 0, .int .i64 0, .int .i64 0])).run Tryz.prog (w.alloc (.map (ents 8) 8)) = .ok () (w.alloc (.map (ents 9) 9)) := insN w 8 (by omega)
 have i9 : (Instr.mapUpdate 38 (.map (some w.heap.size)) (.int .i64 10) (.agg #[.int .i64 3, .int .i64 2, .int .i64 2])).run Tryz.prog (w.alloc (.map (ents 9) 9)) = .ok () (w.alloc (.map (ents 10) 10)) := insN w 9 (by omega)
 have hmm : ∀ w : World, (Instr.makeMap 38 none).run Tryz.prog w = .ok (.map (some w.heap.size)) (w.alloc (.map (ents 0) 0)) := fun w => rfl
 go_enter Tryz.func21, Tryz.ntmps21
 go_wp2
 go_ret
 exact ⟨rfl, rfl⟩
end TreeMap
end Go.Proofs.YthdkjfhpbigdpaaGreatDoor.Pure

namespace Go.Proofs.YthdkjfhpbigdpaaGreatDoor.Pure
open Go Go.RowKit Go.Lib Go.Proofs Go.Proofs.YthdkjfhpbigdpaaGreatDoor.Q Go.Proofs.YthdkjfhpbigdpaaGreatDoorW.PrintWords Go.Proofs.YthdkjfhpbigdpaaGreatDoorW.PrintLast Go.Proofs.YthdkjfhpbigdpaaGreatDoorW.PrintMore
open HTree
namespace TreeNm
set_option linter.unusedVariables false
set_option linter.unusedSimpArgs false
theorem token_is (s : ByteArray) (k : Nat) (hs : s.size ≤ 1000000000) : tree_token.f s k = some (token s k) := by
 unfold tree_token.f lex_All.f token
 rw [if_pos (by omega)]
 cases h : HLex.lex s.data.toList with
 | error x => obtain ⟨p, er⟩ := x; simp
 | ok ts =>
  match ts with
  | [] => simp
  | [t] =>
   simp only [Option.bind_some, List.map_cons, List.map_nil, List.length_cons, List.length_nil]
   have e0 : rd_T49 [HLexC.toS t] 0 = HLexC.toS t := rfl
   rw [e0]
   simp only [HLexC.toS, Lib.toList_data, List.toList_toArray]
   by_cases h2 : t.kind = k
   ·have : (t.kind : Int) = (k : Int) := by omega
    simp [h2, Bool.beq_eq_decide_eq]
   ·have : ¬ (t.kind : Int) = (k : Int) := by omega
    simp [h2, this]
  | t :: u :: r =>
   have : ¬ (((List.map HLexC.toS (t :: u :: r)).length : Int) = 1) := by simp; omega
   simp only [Option.bind_some]
   rw [if_neg this]
theorem number_is (k : Int) (s : ByteArray) (n a : Int) (l : List T) (hl : l.length ≤ 1000000000) : tree_number.f k s n a l = some (number k n l.length) := by
 have hw : wrap64 ((l.length : Int) - 1) = (l.length : Int) - 1 := IntWalk.wrap64_in _ ⟨by omega, by omega⟩
 unfold tree_number.f number
 rw [hw]
 by_cases h9 : k = 9
 ·by_cases h0 : n ≥ 0
  ·rw [if_pos h9, if_pos h0, if_pos h9, decide_eq_true (show 0 ≤ n from h0), Bool.true_and]
  ·rw [if_pos h9, if_neg h0, if_pos h9, decide_eq_false (show ¬ 0 ≤ n from h0), Bool.false_and]
 ·rw [if_neg h9, if_neg h9]
  by_cases h8 : k = 8
  ·rw [if_pos h8, if_pos h8]
   cases h : decide (n = (l.length : Int) - 1) with
   | true => rw [beq_iff_eq.2 (of_decide_eq_true h)]
   | false => rw [beq_eq_false_iff_ne.2 (of_decide_eq_false h)]
  ·rw [if_neg h8, if_neg h8]
   cases h : decide (n = 0) with
   | true => rw [beq_iff_eq.2 (of_decide_eq_true h)]
   | false => rw [beq_eq_false_iff_ne.2 (of_decide_eq_false h)]
def signs : ByteArray := ⟨#[43, 32, 45, 32, 42, 32, 47, 32, 60, 32, 61, 61]⟩
theorem signs_low : ∀ (j : Nat) b, signs.data.toList[j]? = some b → b.toNat < 128 := by
 intro j b h
 have hm := List.mem_of_getElem? h
 have : ∀ b ∈ signs.data.toList, b.toNat < 128 := by decide
 exact this b hm
theorem fields_is : Lib.fields signs.data.toList = [[43], [45], [42], [47], [60], [61, 61]] := by decide +kernel
def sgs : List ByteArray := [⟨#[43]⟩, ⟨#[45]⟩, ⟨#[42]⟩, ⟨#[47]⟩, ⟨#[60]⟩, ⟨#[61, 61]⟩]
theorem contains_is (s : ByteArray) : Lib.containsS sgs s = oper s := by
 have h1 := Lib.containsS_iff sgs s
 have h2 : oper s = true ↔ s ∈ sgs := by
  unfold oper sgs
  rw [List.contains_iff_mem]
  simp only [List.mem_cons, List.mem_nil_iff, or_false, HLexC.bytes_eq_iff]
 cases ha : Lib.containsS sgs s <;> cases hb : oper s <;> simp_all
set_option maxRecDepth 100000 in
theorem named_any (s : ByteArray) (wh : Int) (hs : s.size ≤ 1000000000) (w : World) (htab : Lib.TabIs Tryz.prog w "strings.asciiSpace" .u8 Lib.asciiSpaceTab) :
  Calls Tryz.prog 22 #[.string s, .int .i64 wh] w fun e w' => e = .returned (.bool (named s wh)) ∧ Below w.heap.size w w' := by
 have HT := Lib.hid htab
 clear htab
 rcases Classical.em (wh = 1) with q | q
 ·subst q
  go_enter Tryz.func22, Tryz.ntmps22
  go_wp2_with fail
  refine (tree_token.calls s 1 _ _ (token_is s 1 hs)).mono ?_
  rintro e w5 ⟨rfl, hb⟩
  go_wp2_with fail
  go_ret
  exact ⟨rfl, hb⟩
 have b1 : (wh == 1) = false := beq_eq_false_iff_ne.2 q
 have Q1 := Lib.hid q
 clear q
 rcases Classical.em (wh = 2) with q | q
 ·subst q
  go_enter Tryz.func22, Tryz.ntmps22
  go_wp2_with fail
  refine (tree_token.calls s 2 _ _ (token_is s 2 hs)).mono ?_
  rintro e w5 ⟨rfl, hb⟩
  go_wp2_with fail
  go_ret
  exact ⟨rfl, hb⟩
 have b2 : (wh == 2) = false := beq_eq_false_iff_ne.2 q
 have Q2 := Lib.hid q
 clear q
 rcases Classical.em (wh = 3) with q | q
 ·subst q
  rcases Classical.em (s.data.toList = []) with q0 | q0
  ·have bs : s.toList.isEmpty = true := by rw [Lib.toList_data, q0]; rfl
   have HN : Hid (named s 3 = false) := Lib.hid (by show oper s = false; unfold oper; rw [q0]; rfl)
   clear q0
   go_enter Tryz.func22, Tryz.ntmps22
   go_wp2_with fail
   go_ret
   exact ⟨by rw [HN.out]; rfl, Below.refl _ _⟩
  ·have bs : s.toList.isEmpty = false := by rw [Lib.toList_data]; cases h : s.data.toList with | nil => exact absurd h q0 | cons a l => rfl
   clear q0
   go_enter Tryz.func22, Tryz.ntmps22
   go_wp2_with fail
   refine (Tryz.strings_Fields signs w (by decide) signs_low HT.out).mono ?_
   rintro e w5 ⟨rfl, rfl⟩
   rw [fields_is]
   have hc : ∀ j, j < sgs.length → (w.alloc (.cells ([[43], [45], [42], [47], [60], [61, 61]].map fun l => Value.string ⟨(l : List UInt8).toArray⟩).toArray 9)).cell? ⟨w.heap.size, 0 + j, none⟩ = some (.string (sgs.getD j ByteArray.empty)) := by
    intro j hj
    have hb := blk_cell (blk_new w (.cells ([[43], [45], [42], [47], [60], [61, 61]].map fun l => Value.string ⟨(l : List UInt8).toArray⟩).toArray 9)) j
    rw [Nat.zero_add, hb]
    have : j = 0 ∨ j = 1 ∨ j = 2 ∨ j = 3 ∨ j = 4 ∨ j = 5 := by simp only [sgs, List.length_cons, List.length_nil] at hj; omega
    rcases this with rfl|rfl|rfl|rfl|rfl|rfl <;> rfl
   have hbw := below_alloc (Below.refl w.heap.size w) (.cells ([[43], [45], [42], [47], [60], [61, 61]].map fun l => Value.string ⟨(l : List UInt8).toArray⟩).toArray 9)
   generalize w.alloc (.cells ([[43], [45], [42], [47], [60], [61, 61]].map fun l => Value.string ⟨(l : List UInt8).toArray⟩).toArray 9) = w6 at hc hbw ⊢
   have HC := Lib.hid hc; have HB := Lib.hid hbw
   clear hc hbw
   go_wp2_with fail
   refine (Tryz.slices_Contains_string w.heap.size 0 6 6 sgs s w6 (by decide) (by decide) HC.out).mono ?_
   rintro e w7 ⟨rfl, rfl⟩
   rw [show sgs.take 6 = sgs from rfl, contains_is]
   go_wp2_with fail
   go_ret
   exact ⟨rfl, HB.out⟩
 have b3 : (wh == 3) = false := beq_eq_false_iff_ne.2 q
 have Q3 := Lib.hid q
 clear q
 rcases Classical.em (s.data.toList = []) with q0 | q0
 ·have bs : s.toList.isEmpty = true := by rw [Lib.toList_data, q0]; rfl
  have HN : Hid (named s wh = true) := Lib.hid (by unfold named; rw [if_neg Q1.out, if_neg Q2.out, if_neg Q3.out]; exact decide_eq_true q0)
  clear q0
  go_enter Tryz.func22, Tryz.ntmps22
  go_wp2_with fail
  go_ret
  exact ⟨by rw [HN.out]; rfl, Below.refl _ _⟩
 ·have bs : s.toList.isEmpty = false := by rw [Lib.toList_data]; cases h : s.data.toList with | nil => exact absurd h q0 | cons a l => rfl
  have HN : Hid (named s wh = false) := Lib.hid (by unfold named; rw [if_neg Q1.out, if_neg Q2.out, if_neg Q3.out]; exact decide_eq_false q0)
  clear q0
  go_enter Tryz.func22, Tryz.ntmps22
  go_wp2_with fail
  go_ret
  exact ⟨by rw [HN.out]; rfl, Below.refl _ _⟩
end TreeNm
end Go.Proofs.YthdkjfhpbigdpaaGreatDoor.Pure

namespace Go.Proofs.YthdkjfhpbigdpaaGreatDoor.Pure
open Go Go.RowKit Go.Lib Go.Proofs Go.Proofs.YthdkjfhpbigdpaaGreatDoor.Q Go.Proofs.YthdkjfhpbigdpaaGreatDoorW.PrintWords Go.Proofs.YthdkjfhpbigdpaaGreatDoorW.PrintLast Go.Proofs.YthdkjfhpbigdpaaGreatDoorW.PrintMore
open HTree
namespace TreeMay
set_option linter.unusedVariables false
set_option linter.unusedSimpArgs false
def known (k : Int) : Bool := decide (1 ≤ k) && decide (k ≤ 10)
theorem zero49 (w : World) : (zeroValue 36).run Tryz.prog w = .ok (.agg #[.int .i64 0, .int .i64 0, .int .i64 0]) w := by kernel_rfl
theorem find_no (k : Int) (h : known k = false) : Instr.findNow (.int .i64) (.int .i64 k) (TreeMap.ents 10).toList 0 = some none := by
 have hne : ∀ i : Int, 1 ≤ i → i ≤ 10 → (k == i) = false := by
  intro i h1 h2
  refine beq_eq_false_iff_ne.2 ?_
  rintro rfl
  rw [known, decide_eq_true h1, decide_eq_true h2] at h; cases h
 have e : (TreeMap.ents 10).toList = [TreeMap.ent 1 1 0 0 0, TreeMap.ent 2 1 1 1 1, TreeMap.ent 3 0 2 2 2, TreeMap.ent 4 1 2 2 3, TreeMap.ent 5 1 2 2 4, TreeMap.ent 6 2 0 8 5, TreeMap.ent 7 0 2 9 6, TreeMap.ent 8 2 1 9 7, TreeMap.ent 9 0 0 0 8, TreeMap.ent 10 3 2 2 9] := rfl
 rw [e]
 simp [Instr.findNow, Instr.sameNow, TreeMap.ent, hne]
theorem look_at (k : Int) (w : World) (g : Nat) (hb : w.heap[g]? = some (.map (TreeMap.ents 10) 10)) (j : Nat) (v : Value) (hf : Instr.findNow (.int .i64) (.int .i64 k) (TreeMap.ents 10).toList 0 = some (some (j, v))) :
  (Instr.lookup 38 (.map (some g)) (.int .i64 k) true).run Tryz.prog w = .ok (.tuple #[v, .bool true]) w := by
 have hk : MapKept.IsKey (.int .i64) (.int .i64 k) := rfl
 simp [Instr.lookup, run_underlying TreeMap.hm, MapKept.run_getObj_map hb, MapKept.run_checkKey TreeMap.hd hk, MapKept.run_findKey TreeMap.hd hf, Result.andThen]
theorem look (k : Int) (w : World) (g : Nat) (hb : w.heap[g]? = some (.map (TreeMap.ents 10) 10)) :
  (Instr.lookup 38 (.map (some g)) (.int .i64 k) true).run Tryz.prog w = .ok (.tuple #[.agg #[.int .i64 (what k), .int .i64 (least k), .int .i64 (most k)], .bool (known k)]) w := by
 have hk : MapKept.IsKey (.int .i64) (.int .i64 k) := rfl
 cases h : known k with
 | false =>
  have hz : what k = 0 ∧ least k = 0 ∧ most k = 0 := by
   simp only [known, Bool.and_eq_false_imp, decide_eq_true_eq, decide_eq_false_iff_not] at h
   simp only [what, least, most]
   refine ⟨?_, ?_, ?_⟩ <;> (repeat' split) <;> omega
  rw [hz.1, hz.2.1, hz.2.2]
  simp [Instr.lookup, run_underlying TreeMap.hm, MapKept.run_getObj_map hb, MapKept.run_checkKey TreeMap.hd hk, MapKept.run_findKey TreeMap.hd (find_no k h), zero49, Result.andThen]
 | true =>
  simp only [known, Bool.and_eq_true, decide_eq_true_eq] at h
  have : k = 1 ∨ k = 2 ∨ k = 3 ∨ k = 4 ∨ k = 5 ∨ k = 6 ∨ k = 7 ∨ k = 8 ∨ k = 9 ∨ k = 10 := by omega
  rcases this with rfl|rfl|rfl|rfl|rfl|rfl|rfl|rfl|rfl|rfl
  ·exact look_at _ w g hb 0 _ (by rfl)
  ·exact look_at _ w g hb 1 _ (by rfl)
  ·exact look_at _ w g hb 2 _ (by rfl)
  ·exact look_at _ w g hb 3 _ (by rfl)
  ·exact look_at _ w g hb 4 _ (by rfl)
  ·exact look_at _ w g hb 5 _ (by rfl)
  ·exact look_at _ w g hb 6 _ (by rfl)
  ·exact look_at _ w g hb 7 _ (by rfl)
  ·exact look_at _ w g hb 8 _ (by rfl)
  ·exact look_at _ w g hb 9 _ (by rfl)
def MayC (x : T) : Prop := ∀ (w : World) (A : Option Addr) (c : Nat), Kd.C k24 w A x.f4.length x.f4 → x.f4.length ≤ c → Lib.TabIs Tryz.prog w "strings.asciiSpace" .u8 Lib.asciiSpaceTab →
 Calls Tryz.prog 18 #[.agg #[.int .i64 x.f0, .string x.f1, .int .i64 x.f2, .int .i64 x.f3, .slice A x.f4.length c]] w fun e w' => e = .returned (.bool (may x)) ∧ Below w.heap.size w w'
theorem part_is (t : T) (x : T) (i : Int) : HTree.part t.f0 t.f2 x i = if t.f0 = 7 ∧ 0 < i then decide (x.f0 = 8) && may x else if t.f0 = 8 ∧ i < t.f2 ∧ x.f0 ≠ 1 then false else decide (x.f0 ≠ 8) && may x := rfl
set_option maxRecDepth 100000 in
theorem part_any (t : T) (i : Nat) (hi : i < t.f4.length) (hl9 : t.f4.length ≤ 1000000000) (H : MayC t.f4[i]) (w : World) (A : Option Addr) (c : Nat) (hC : Kd.C k24 w A t.f4.length t.f4) (hl : t.f4.length ≤ c) (htab : Lib.TabIs Tryz.prog w "strings.asciiSpace" .u8 Lib.asciiSpaceTab) :
  Calls Tryz.prog 24 #[.agg #[.int .i64 t.f0, .string t.f1, .int .i64 t.f2, .int .i64 t.f3, .slice A t.f4.length c], .int .i64 i] w fun e w' => e = .returned (.bool (HTree.part t.f0 t.f2 t.f4[i] (i : Int))) ∧ Below w.heap.size w w' := by
 have HT := Lib.hid (tabBelow_of_tabIs htab)
 clear htab
 have HH := Lib.hid H
 clear H
 have hba := below_alloc (Below.refl w.heap.size w) (Obj.cells #[.int .i64 t.f0, .string t.f1, .int .i64 t.f2, .int .i64 t.f3, .slice A t.f4.length c] 24)
 have h1 := blk_new w (Obj.cells #[.int .i64 t.f0, .string t.f1, .int .i64 t.f2, .int .i64 t.f3, .slice A t.f4.length c] 24)
 go_enter Tryz.func24, Tryz.ntmps24
 go_upto_region 1 with (fail)
 generalize hwq : w.alloc (Obj.cells #[.int .i64 t.f0, .string t.f1, .int .i64 t.f2, .int .i64 t.f3, .slice A t.f4.length c] 24) = wq at hba h1 ⊢
 clear hwq
 have HB := Lib.hid hba; have Bt := Lib.hid h1; have Ct := Lib.hid (Kd.C_below hC hba)
 clear hba h1 hC
 have t0 := blk_cell Bt.out 0; have t1 := blk_cell Bt.out 1; have t2 := blk_cell Bt.out 2; have t3 := blk_cell Bt.out 3; have t4 := blk_cell Bt.out 4
 simp only [List.getElem?_toArray, List.getElem?_cons_zero, List.getElem?_cons_succ] at t0 t1 t2 t3 t4
 obtain ⟨ad, A3, c3, rfl, x0, x1, x2, x3, x4, hl3, hc3⟩ := at_T24 Ct.out (i : Int) (by omega) (by omega)
 simp only [Int.toNat_natCast] at x0 x1 x2 x3 x4
 have hrk : rd_T24 t.f4 (i : Int) = t.f4[i] := by
  unfold rd_T24
  rw [Int.toNat_natCast, List.getD_eq_getElem?_getD, List.getElem?_eq_getElem hi]; rfl
 rw [hrk] at x0 x1 x2 x3 x4 hl3 hc3
 generalize hx : t.f4[i] = x at *
 have Cx := Lib.hid hc3; have HX := Lib.hid hx
 clear hrk hx hc3
 go_upto_region 2 with (fail)
 have hbx := blk_new wq (Obj.cells #[.int .i64 x.f0, .string x.f1, .int .i64 x.f2, .int .i64 x.f3, .slice A3 x.f4.length c3] 24)
 have hbb := below_alloc (Below.refl wq.heap.size wq) (Obj.cells #[.int .i64 x.f0, .string x.f1, .int .i64 x.f2, .int .i64 x.f3, .slice A3 x.f4.length c3] 24)
 generalize wq.alloc (Obj.cells #[.int .i64 x.f0, .string x.f1, .int .i64 x.f2, .int .i64 x.f3, .slice A3 x.f4.length c3] 24) = ws at hbx hbb ⊢
 have hbt := blk_below Bt.out hbb
 have Bx := Lib.hid hbx; have B2 := Lib.hid hbt; have HB2 := Lib.hid (below_step HB.out hbb); have C2 := Lib.hid (Kd.C_below Cx.out hbb)
 clear hbx hbb hbt x0 x1 x2 x3 x4 t0 t1 t2 t3 t4 Bt HB Cx Ct
 have t0 := blk_cell B2.out 0; have t1 := blk_cell B2.out 1; have t2 := blk_cell B2.out 2; have t3 := blk_cell B2.out 3; have t4 := blk_cell B2.out 4
 simp only [List.getElem?_toArray, List.getElem?_cons_zero, List.getElem?_cons_succ] at t0 t1 t2 t3 t4
 have x0 := blk_cell Bx.out 0; have x1 := blk_cell Bx.out 1; have x2 := blk_cell Bx.out 2; have x3 := blk_cell Bx.out 3; have x4 := blk_cell Bx.out 4
 simp only [List.getElem?_toArray, List.getElem?_cons_zero, List.getElem?_cons_succ] at x0 x1 x2 x3 x4
 have HP := Lib.hid (part_is t x (i : Int))
 rcases Classical.em (t.f0 = 7) with q | q
 ·have Q7 := Lib.hid q
  have b7 : (t.f0 == 7) = true := beq_iff_eq.2 q
  have n7 : (t.f0 != 7) = false := bne_eq_false_iff_eq.2 q
  clear q
  have b8 : (t.f0 == 8) = false := beq_eq_false_iff_ne.2 (by have := Q7.out; omega)
  rcases Classical.em (0 < i) with q | q
  ·have Q0 := Lib.hid q
   have bg : decide ((i : Int) > 0) = true := decide_eq_true (by omega)
   have bg1 : decide (0 < i) = true := decide_eq_true q
   have bg2 : decide ((0 : Int) < (i : Int)) = true := decide_eq_true (by omega)
   clear q
   rcases Classical.em (x.f0 = 8) with q | q
   ·have E := Lib.hid q
    have bx8 : (x.f0 == 8) = true := beq_iff_eq.2 q
    have nx8 : (x.f0 != 8) = false := bne_eq_false_iff_eq.2 q
    clear q
    have HR : Hid (HTree.part t.f0 t.f2 x (i : Int) = may x) := Lib.hid (by rw [HP.out]; rw [if_pos ⟨Q7.out, by have := Q0.out; omega⟩, decide_eq_true E.out, Bool.true_and])
    go_wp2_with fail
    refine (HH.out _ _ _ C2.out hl3 (HT.out.on HB2.out).here).mono ?_
    rintro e w5 ⟨rfl, hb⟩
    have HB5 := Lib.hid (below_step HB2.out hb)
    clear hb
    go_wp2_with fail
    go_ret
    exact ⟨by rw [HX.out, HR.out]; rfl, HB5.out⟩
   ·have E := Lib.hid q
    have bx8 : (x.f0 == 8) = false := beq_eq_false_iff_ne.2 q
    have nx8 : (x.f0 != 8) = true := bne_iff_ne.2 q
    clear q
    have HR : Hid (HTree.part t.f0 t.f2 x (i : Int) = false) := Lib.hid (by rw [HP.out]; rw [if_pos ⟨Q7.out, by have := Q0.out; omega⟩, decide_eq_false E.out, Bool.false_and])
    go_wp2_with fail
    go_ret
    exact ⟨by rw [HX.out, HR.out]; rfl, HB2.out⟩
  ·have Q0 := Lib.hid q
   have bg : decide ((i : Int) > 0) = false := decide_eq_false (by omega)
   have bg1 : decide (0 < i) = false := decide_eq_false q
   have bg2 : decide ((0 : Int) < (i : Int)) = false := decide_eq_false (by omega)
   clear q
   rcases Classical.em (x.f0 = 8) with q | q
   ·have E := Lib.hid q
    have bx8 : (x.f0 == 8) = true := beq_iff_eq.2 q
    have nx8 : (x.f0 != 8) = false := bne_eq_false_iff_eq.2 q
    clear q
    have HR : Hid (HTree.part t.f0 t.f2 x (i : Int) = false) := Lib.hid (by rw [HP.out]; rw [if_neg (by have := Q0.out; omega), if_neg (by have := Q7.out; omega)]; simp [E.out])
    go_wp2_with fail
    go_ret
    exact ⟨by rw [HX.out, HR.out]; rfl, HB2.out⟩
   ·have E := Lib.hid q
    have bx8 : (x.f0 == 8) = false := beq_eq_false_iff_ne.2 q
    have nx8 : (x.f0 != 8) = true := bne_iff_ne.2 q
    clear q
    have HR : Hid (HTree.part t.f0 t.f2 x (i : Int) = may x) := Lib.hid (by rw [HP.out]; rw [if_neg (by have := Q0.out; omega), if_neg (by have := Q7.out; omega)]; simp [E.out])
    go_wp2_with fail
    refine (HH.out _ _ _ C2.out hl3 (HT.out.on HB2.out).here).mono ?_
    rintro e w5 ⟨rfl, hb⟩
    have HB5 := Lib.hid (below_step HB2.out hb)
    clear hb
    go_wp2_with fail
    go_ret
    exact ⟨by rw [HX.out, HR.out]; rfl, HB5.out⟩
 ·have Q7 := Lib.hid q
  have b7 : (t.f0 == 7) = false := beq_eq_false_iff_ne.2 q
  have n7 : (t.f0 != 7) = true := bne_iff_ne.2 q
  clear q
  rcases Classical.em (t.f0 = 8) with q | q
  ·have Q8 := Lib.hid q
   have b8 : (t.f0 == 8) = true := beq_iff_eq.2 q
   have n8 : (t.f0 != 8) = false := bne_eq_false_iff_eq.2 q
   clear q
   rcases Classical.em ((i : Int) < t.f2) with q | q
   ·have Q2 := Lib.hid q
    have bl : decide ((i : Int) < t.f2) = true := decide_eq_true q
    clear q
    rcases Classical.em (x.f0 = 1) with q | q
    ·have E1 := Lib.hid q
     have bx1 : (x.f0 == 1) = true := beq_iff_eq.2 q
     have nx1 : (x.f0 != 1) = false := bne_eq_false_iff_eq.2 q
     clear q
     have nx8 : (x.f0 != 8) = true := bne_iff_ne.2 (by have := E1.out; omega)
     have HR : Hid (HTree.part t.f0 t.f2 x (i : Int) = may x) := Lib.hid (by rw [HP.out]; rw [if_neg (fun h => Q7.out h.1), if_neg (fun h => h.2.2 E1.out), decide_eq_true (by have := E1.out; omega), Bool.true_and])
     go_wp2_with fail
     refine (HH.out _ _ _ C2.out hl3 (HT.out.on HB2.out).here).mono ?_
     rintro e w5 ⟨rfl, hb⟩
     have HB5 := Lib.hid (below_step HB2.out hb)
     clear hb
     go_wp2_with fail
     go_ret
     exact ⟨by rw [HX.out, HR.out]; rfl, HB5.out⟩
    ·have E1 := Lib.hid q
     have bx1 : (x.f0 == 1) = false := beq_eq_false_iff_ne.2 q
     have nx1 : (x.f0 != 1) = true := bne_iff_ne.2 q
     clear q
     have HR : Hid (HTree.part t.f0 t.f2 x (i : Int) = false) := Lib.hid (by rw [HP.out]; rw [if_neg (fun h => Q7.out h.1), if_pos ⟨Q8.out, Q2.out, E1.out⟩])
     go_wp2_with fail
     go_ret
     exact ⟨by rw [HX.out, HR.out]; rfl, HB2.out⟩
   ·have Q2 := Lib.hid q
    have bl : decide ((i : Int) < t.f2) = false := decide_eq_false q
    clear q
    rcases Classical.em (x.f0 = 8) with q | q
    ·have E := Lib.hid q
     have bx8 : (x.f0 == 8) = true := beq_iff_eq.2 q
     have nx8 : (x.f0 != 8) = false := bne_eq_false_iff_eq.2 q
     clear q
     have HR : Hid (HTree.part t.f0 t.f2 x (i : Int) = false) := Lib.hid (by rw [HP.out]; rw [if_neg (fun h => Q7.out h.1), if_neg (fun h => Q2.out h.2.1)]; simp [E.out])
     go_wp2_with fail
     go_ret
     exact ⟨by rw [HX.out, HR.out]; rfl, HB2.out⟩
    ·have E := Lib.hid q
     have bx8 : (x.f0 == 8) = false := beq_eq_false_iff_ne.2 q
     have nx8 : (x.f0 != 8) = true := bne_iff_ne.2 q
     clear q
     have HR : Hid (HTree.part t.f0 t.f2 x (i : Int) = may x) := Lib.hid (by rw [HP.out]; rw [if_neg (fun h => Q7.out h.1), if_neg (fun h => Q2.out h.2.1)]; simp [E.out])
     go_wp2_with fail
     refine (HH.out _ _ _ C2.out hl3 (HT.out.on HB2.out).here).mono ?_
     rintro e w5 ⟨rfl, hb⟩
     have HB5 := Lib.hid (below_step HB2.out hb)
     clear hb
     go_wp2_with fail
     go_ret
     exact ⟨by rw [HX.out, HR.out]; rfl, HB5.out⟩
  ·have Q8 := Lib.hid q
   have b8 : (t.f0 == 8) = false := beq_eq_false_iff_ne.2 q
   have n8 : (t.f0 != 8) = true := bne_iff_ne.2 q
   clear q
   rcases Classical.em (x.f0 = 8) with q | q
   ·have E := Lib.hid q
    have bx8 : (x.f0 == 8) = true := beq_iff_eq.2 q
    have nx8 : (x.f0 != 8) = false := bne_eq_false_iff_eq.2 q
    clear q
    have HR : Hid (HTree.part t.f0 t.f2 x (i : Int) = false) := Lib.hid (by rw [HP.out]; rw [if_neg (fun h => Q7.out h.1), if_neg (fun h => Q8.out h.1)]; simp [E.out])
    go_wp2_with fail
    go_ret
    exact ⟨by rw [HX.out, HR.out]; rfl, HB2.out⟩
   ·have E := Lib.hid q
    have bx8 : (x.f0 == 8) = false := beq_eq_false_iff_ne.2 q
    have nx8 : (x.f0 != 8) = true := bne_iff_ne.2 q
    clear q
    have HR : Hid (HTree.part t.f0 t.f2 x (i : Int) = may x) := Lib.hid (by rw [HP.out]; rw [if_neg (fun h => Q7.out h.1), if_neg (fun h => Q8.out h.1)]; simp [E.out])
    go_wp2_with fail
    refine (HH.out _ _ _ C2.out hl3 (HT.out.on HB2.out).here).mono ?_
    rintro e w5 ⟨rfl, hb⟩
    have HB5 := Lib.hid (below_step HB2.out hb)
    clear hb
    go_wp2_with fail
    go_ret
    exact ⟨by rw [HX.out, HR.out]; rfl, HB5.out⟩
end TreeMay
end Go.Proofs.YthdkjfhpbigdpaaGreatDoor.Pure

namespace Go.Proofs.YthdkjfhpbigdpaaGreatDoor.Pure
open Go Go.RowKit Go.Lib Go.Proofs Go.Proofs.YthdkjfhpbigdpaaGreatDoor.Q Go.Proofs.YthdkjfhpbigdpaaGreatDoorW.PrintWords Go.Proofs.YthdkjfhpbigdpaaGreatDoorW.PrintLast Go.Proofs.YthdkjfhpbigdpaaGreatDoorW.PrintMore
open HTree
namespace TreeMay
set_option linter.unusedVariables false
set_option linter.unusedSimpArgs false
theorem keep5 {p0 : Addr} {p1 : Addr} {p2 : Addr} {p3 : Addr} {p4 : Addr} {v0 : Value} {v1 : Value} {v2 : Value} {v3 : Value} {v4 : Value} {wq w1 w2 : World}
  (h : w1.cell? p0 = some v0 ∧ w1.cell? p1 = some v1 ∧ w1.cell? p2 = some v2 ∧ w1.cell? p3 = some v3 ∧ w1.cell? p4 = some v4 ∧ Below wq.heap.size wq w1) (hb : Below w1.heap.size w1 w2) :
  w2.cell? p0 = some v0 ∧ w2.cell? p1 = some v1 ∧ w2.cell? p2 = some v2 ∧ w2.cell? p3 = some v3 ∧ w2.cell? p4 = some v4 ∧ Below wq.heap.size wq w2 := by
 obtain ⟨h0, h1, h2, h3, h4, h5⟩ := h
 exact ⟨(hb.cell (World.block_lt_of_cell? _ _ h0)).trans h0, (hb.cell (World.block_lt_of_cell? _ _ h1)).trans h1, (hb.cell (World.block_lt_of_cell? _ _ h2)).trans h2, (hb.cell (World.block_lt_of_cell? _ _ h3)).trans h3, (hb.cell (World.block_lt_of_cell? _ _ h4)).trans h4, below_step h5 hb⟩
theorem may_is (t : T) : may t = (known t.f0 && decide (least t.f0 ≤ (t.f4.length : Int)) && decide ((t.f4.length : Int) ≤ most t.f0) && named t.f1 (what t.f0) && number t.f0 t.f2 t.f4.length && decide (0 ≤ t.f3) && parts t.f0 t.f2 t.f4 0) := by cases t; rfl
set_option maxRecDepth 100000 in
set_option maxHeartbeats 16000000 in
theorem may_step (t : T) (hl9 : t.f4.length ≤ 1000000000) (hs : t.f1.size ≤ 1000000000) (H : ∀ x ∈ t.f4, MayC x) : MayC t := by
 intro w A c hC hl htab
 have HT := Lib.hid (tabBelow_of_tabIs htab)
 clear htab
 have HH := Lib.hid H
 clear H
 have hba := below_alloc (Below.refl w.heap.size w) (Obj.cells #[.int .i64 t.f0, .string t.f1, .int .i64 t.f2, .int .i64 t.f3, .slice A t.f4.length c] 24)
 have h1 := blk_new w (Obj.cells #[.int .i64 t.f0, .string t.f1, .int .i64 t.f2, .int .i64 t.f3, .slice A t.f4.length c] 24)
 go_enter Tryz.func18, Tryz.ntmps18
 go_upto_region 1 with (fail)
 generalize hwq : w.alloc (Obj.cells #[.int .i64 t.f0, .string t.f1, .int .i64 t.f2, .int .i64 t.f3, .slice A t.f4.length c] 24) = wq at hba h1 ⊢
 clear hwq
 have HB := Lib.hid hba; have Bt := Lib.hid h1; have Ct := Lib.hid (Kd.C_below hC hba)
 clear hba h1 hC
 have t0 := blk_cell Bt.out 0; have t1 := blk_cell Bt.out 1; have t2 := blk_cell Bt.out 2; have t3 := blk_cell Bt.out 3; have t4 := blk_cell Bt.out 4
 simp only [List.getElem?_toArray, List.getElem?_cons_zero, List.getElem?_cons_succ] at t0 t1 t2 t3 t4
 refine wp_region_held_drew (S := (fun w' => w'.cell? ⟨w.heap.size, 0, none⟩ = some (.int .i64 t.f0) ∧ w'.cell? ⟨w.heap.size, 1, none⟩ = some (.string t.f1) ∧ w'.cell? ⟨w.heap.size, 2, none⟩ = some (.int .i64 t.f2) ∧ w'.cell? ⟨w.heap.size, 3, none⟩ = some (.int .i64 t.f3) ∧ w'.cell? ⟨w.heap.size, 4, none⟩ = some (.slice A t.f4.length c) ∧ Below wq.heap.size wq w')) (by kernel_rfl) (by (try dsimp only); exact keep5 ⟨t0, t1, t2, t3, t4, Below.refl _ _⟩ (below_drew1 (Below.refl _ _))) (fun hHeld => ?_)
 refine wpAnyH_take (i := 1) (v := ?_) rfl (by kernel_rfl) (by kernel_rfl) (by kernel_rfl) (fun _ _ _ h => h) (Or.inl ⟨by rfl, ?_⟩) (by assumption) ?_
 rotate_left 1
 ·(intro w hSw; (try dsimp only at hSw); (try simp only [List.getElem_toArray, List.getElem_cons_succ, List.getElem_cons_zero]); go_simp; (try with_reducible rfl))
 (try simp only [Act.put, List.getElem_toArray, List.getElem_cons_succ, List.getElem_cons_zero, List.setIfInBounds_toArray, List.set_cons_zero, List.set_cons_succ])
 refine wpAnyH_take (i := 2) (v := ?_) rfl (by kernel_rfl) (by kernel_rfl) (by kernel_rfl) (fun _ _ _ h => h) (Or.inl ⟨by rfl, ?_⟩) (by assumption) ?_
 rotate_left 1
 ·(intro w hSw; (try dsimp only at hSw); (try simp only [List.getElem_toArray, List.getElem_cons_succ, List.getElem_cons_zero]); go_simp; (try with_reducible rfl))
 (try simp only [Act.put, List.getElem_toArray, List.getElem_cons_succ, List.getElem_cons_zero, List.setIfInBounds_toArray, List.set_cons_zero, List.set_cons_succ])
 refine wpAnyH_ready (rs := [0, 7]) (by kernel_rfl) (by simp) ?_
 refine AllReadyH.cons rfl (fun K hK => ?_) (AllReadyH.cons rfl (fun K hK => ?_) (AllReadyH.nil))
 ·(try simp only [List.getElem_toArray, List.getElem_cons_succ, List.getElem_cons_zero])
  go_simp
  refine (TreeMap.shapes_any _).mono ?_
  rintro e w9 ⟨rfl, h9⟩
  have mb : w9.heap[wq.heap.size]? = some (Obj.map (TreeMap.ents 10) 10) := by rw [h9]; exact blk_new _ _
  have hb : Below wq.drew.heap.size wq.drew w9 := by rw [h9]; exact below_alloc (Below.refl _ _) _
  clear h9
  simp only []
  refine hK.out _ _ ?_ (fun hHeld => ?_)
  ·(try dsimp only); exact keep5 hHeld hb
  clear hK K
  (try simp only [Act.put, List.getElem_toArray, List.getElem_cons_succ, List.getElem_cons_zero, List.setIfInBounds_toArray, List.set_cons_zero, List.set_cons_succ])
  have hlk := look t.f0 w9 _ mb
  refine wpAnyH_ready (rs := [3, 7]) (by kernel_rfl) (by simp) ?_
  refine AllReadyH.cons rfl (fun K hK => ?_) (AllReadyH.cons rfl (fun K hK => ?_) (AllReadyH.nil))
  ·(try simp only [List.getElem_toArray, List.getElem_cons_succ, List.getElem_cons_zero])
   go_simp
   refine hK.out _ _ ?_ (fun hHeld => ?_)
   ·(try dsimp only); exact hHeld
   clear hK K
   (try simp only [Act.put, List.getElem_toArray, List.getElem_cons_succ, List.getElem_cons_zero, List.setIfInBounds_toArray, List.set_cons_zero, List.set_cons_succ])
   refine wpAnyH_take (i := 4) (v := ?_) rfl (by kernel_rfl) (by kernel_rfl) (by kernel_rfl) (fun _ _ _ h => h) (Or.inl ⟨by rfl, ?_⟩) (by assumption) ?_
   rotate_left 1
   ·(intro w hSw; (try dsimp only at hSw); (try simp only [List.getElem_toArray, List.getElem_cons_succ, List.getElem_cons_zero]); go_simp; (try with_reducible rfl))
   (try simp only [Act.put, List.getElem_toArray, List.getElem_cons_succ, List.getElem_cons_zero, List.setIfInBounds_toArray, List.set_cons_zero, List.set_cons_succ])
   refine wpAnyH_take (i := 5) (v := ?_) rfl (by kernel_rfl) (by kernel_rfl) (by kernel_rfl) (fun _ _ _ h => h) (Or.inl ⟨by rfl, ?_⟩) (by assumption) ?_
   rotate_left 1
   ·(intro w hSw; (try dsimp only at hSw); (try simp only [List.getElem_toArray, List.getElem_cons_succ, List.getElem_cons_zero]); go_simp; (try with_reducible rfl))
   (try simp only [Act.put, List.getElem_toArray, List.getElem_cons_succ, List.getElem_cons_zero, List.setIfInBounds_toArray, List.set_cons_zero, List.set_cons_succ])
   refine wpAnyH_take (i := 6) (v := ?_) rfl (by kernel_rfl) (by kernel_rfl) (by kernel_rfl) (fun _ _ _ h => h) (Or.inl ⟨by rfl, ?_⟩) (by assumption) ?_
   rotate_left 1
   ·(intro w hSw; (try dsimp only at hSw); (try simp only [List.getElem_toArray, List.getElem_cons_succ, List.getElem_cons_zero]); go_simp; (try with_reducible rfl))
   (try simp only [Act.put, List.getElem_toArray, List.getElem_cons_succ, List.getElem_cons_zero, List.setIfInBounds_toArray, List.set_cons_zero, List.set_cons_succ])
   refine wpAnyH_ready (rs := [7]) (by kernel_rfl) (by simp) ?_
   refine AllReadyH.cons rfl (fun K hK => ?_) (AllReadyH.nil)
   (try simp only [List.getElem_toArray, List.getElem_cons_succ, List.getElem_cons_zero])
   go_simp
   have hb : Below w9.heap.size w9 (w9.alloc (Obj.cells #[.int .i64 0, .int .i64 0, .int .i64 0] 36)) := below_alloc (Below.refl _ _) _
   have vb : (w9.alloc (Obj.cells #[.int .i64 0, .int .i64 0, .int .i64 0] 36)).heap[w9.heap.size]? = some (Obj.cells #[.int .i64 0, .int .i64 0, .int .i64 0] 36) := blk_new _ _
   generalize w9.alloc (Obj.cells #[.int .i64 0, .int .i64 0, .int .i64 0] 36) = wv at hb vb ⊢
   refine hK.out _ _ ?_ (fun hHeld => ?_)
   ·(try dsimp only); exact keep5 hHeld hb
   clear hK K
   (try simp only [Act.put, List.getElem_toArray, List.getElem_cons_succ, List.getElem_cons_zero, List.setIfInBounds_toArray, List.set_cons_zero, List.set_cons_succ])
   have v0 := blk_cell vb 0; have v1 := blk_cell vb 1; have v2 := blk_cell vb 2
   simp only [List.getElem?_toArray, List.getElem?_cons_zero, List.getElem?_cons_succ] at v0 v1 v2
   have z0 := blk_frozen vb 0; have z1 := blk_frozen vb 1; have z2 := blk_frozen vb 2
   have hge : wq.heap.size ≤ w9.heap.size := Nat.le_of_lt (blk_lt mb)
   refine wpAnyH_ready (rs := [8]) (by kernel_rfl) (by simp) ?_
   refine AllReadyH.cons rfl (fun K hK => ?_) (AllReadyH.nil)
   (try simp only [List.getElem_toArray, List.getElem_cons_succ, List.getElem_cons_zero])
   go_simp
   have vb2 : (((wv.setCell ⟨w9.heap.size, 0, none⟩ (.int .i64 (what t.f0))).setCell ⟨w9.heap.size, 1, none⟩ (.int .i64 (least t.f0))).setCell ⟨w9.heap.size, 2, none⟩ (.int .i64 (most t.f0))).heap[w9.heap.size]? = some (Obj.cells #[.int .i64 (what t.f0), .int .i64 (least t.f0), .int .i64 (most t.f0)] 36) := blk_put (blk_put (blk_put vb 0 (.int .i64 (what t.f0)) rfl) 1 (.int .i64 (least t.f0)) rfl) 2 (.int .i64 (most t.f0)) rfl
   have hbs : Below wq.heap.size wq (((wv.setCell ⟨w9.heap.size, 0, none⟩ (.int .i64 (what t.f0))).setCell ⟨w9.heap.size, 1, none⟩ (.int .i64 (least t.f0))).setCell ⟨w9.heap.size, 2, none⟩ (.int .i64 (most t.f0))) := below_set (below_set (below_set hHeld.2.2.2.2.2 hge) hge) hge
   generalize (((wv.setCell ⟨w9.heap.size, 0, none⟩ (.int .i64 (what t.f0))).setCell ⟨w9.heap.size, 1, none⟩ (.int .i64 (least t.f0))).setCell ⟨w9.heap.size, 2, none⟩ (.int .i64 (most t.f0))) = ws at vb2 hbs ⊢
   refine hK.out _ _ ?_ (fun hHeld => ?_)
   ·(try dsimp only); exact keep5 ⟨t0, t1, t2, t3, t4, Below.refl _ _⟩ hbs
   clear hK K
   (try simp only [Act.put, List.getElem_toArray, List.getElem_cons_succ, List.getElem_cons_zero, List.setIfInBounds_toArray, List.set_cons_zero, List.set_cons_succ])
   refine wpAnyH_take (i := 9) (v := ?_) rfl (by kernel_rfl) (by kernel_rfl) (by kernel_rfl) (fun _ _ _ h => h) (Or.inl ⟨by rfl, ?_⟩) (by assumption) ?_
   rotate_left 1
   ·(intro w hSw; (try dsimp only at hSw); (try simp only [List.getElem_toArray, List.getElem_cons_succ, List.getElem_cons_zero]); go_simp; (try with_reducible rfl))
   (try simp only [Act.put, List.getElem_toArray, List.getElem_cons_succ, List.getElem_cons_zero, List.setIfInBounds_toArray, List.set_cons_zero, List.set_cons_succ])
   refine wpAnyH_done (by kernel_rfl) ?_ _
   have Bs := Lib.hid vb2
   have n0_ := Lib.hid (below_step HB.out hbs); have n1_ := Lib.hid (Kd.C_below Ct.out hbs); have n2_ := Lib.hid (blk_below Bt.out hbs)
   clear HB Ct Bt vb vb2 hbs hHeld v0 v1 v2 z0 z1 z2 hlk mb t0 t1 t2 t3 t4 hge
   have HB := n0_; have Ct := n1_; have Bt := n2_
   clear n0_ n1_ n2_
   generalize w9.heap.size = gb at Bs ⊢
   have t0 := blk_cell Bt.out 0; have t1 := blk_cell Bt.out 1; have t2 := blk_cell Bt.out 2; have t3 := blk_cell Bt.out 3; have t4 := blk_cell Bt.out 4
   simp only [List.getElem?_toArray, List.getElem?_cons_zero, List.getElem?_cons_succ] at t0 t1 t2 t3 t4
   have s0 := blk_cell Bs.out 0; have s1 := blk_cell Bs.out 1; have s2 := blk_cell Bs.out 2
   simp only [List.getElem?_toArray, List.getElem?_cons_zero, List.getElem?_cons_succ] at s0 s1 s2
   have MI := Lib.hid (may_is t)
   generalize hwh : what t.f0 = wh at *
   generalize hle : least t.f0 = le at *
   generalize hmo : most t.f0 = mo at *
   generalize hkn : known t.f0 = kn at *
   clear hwh hle hmo hkn
   cases kn with
   | false =>
    have HR : Hid (may t = false) := Lib.hid (by rw [MI.out]; simp)
    go_wp2_with fail
    go_ret
    exact ⟨by rw [HR.out]; rfl, HB.out⟩
   | true =>
    rcases Classical.em ((t.f4.length : Int) < le) with q | q
    ·have QN := Lib.hid q
     have bl : decide ((t.f4.length : Int) < le) = true := decide_eq_true q
     clear q
     have HR : Hid (may t = false) := Lib.hid (by rw [MI.out]; rw [decide_eq_false (show ¬ le ≤ (t.f4.length : Int) by have := QN.out; omega)]; simp)
     go_wp2_with fail
     go_ret
     exact ⟨by rw [HR.out]; rfl, HB.out⟩
    ·have QN := Lib.hid q
     have bl : decide ((t.f4.length : Int) < le) = false := decide_eq_false q
     clear q
     have QL : Hid (le ≤ (t.f4.length : Int)) := Lib.hid (by have := QN.out; omega)
     clear QN
     rcases Classical.em ((t.f4.length : Int) > mo) with q | q
     ·have QN := Lib.hid q
      have bm : decide ((t.f4.length : Int) > mo) = true := decide_eq_true q
      have bm2 : decide (mo < (t.f4.length : Int)) = true := decide_eq_true q
      clear q
      have HR : Hid (may t = false) := Lib.hid (by rw [MI.out]; rw [decide_eq_false (show ¬ (t.f4.length : Int) ≤ mo by have := QN.out; omega)]; simp)
      go_wp2_with fail
      go_ret
      exact ⟨by rw [HR.out]; rfl, HB.out⟩
     ·have QN := Lib.hid q
      have bm : decide ((t.f4.length : Int) > mo) = false := decide_eq_false q
      have bm2 : decide (mo < (t.f4.length : Int)) = false := decide_eq_false q
      clear q
      have QM : Hid ((t.f4.length : Int) ≤ mo) := Lib.hid (by have := QN.out; omega)
      clear QN
      obtain ⟨nb, VN⟩ : ∃ q, Hid (named t.f1 wh = q) := ⟨_, Lib.hid rfl⟩
      go_wp2_with fail
      refine ((TreeNm.named_any t.f1 wh hs _ (HT.out.on HB.out).here).mono fun e w' h => (⟨h.1.trans (by rw [VN.out]), h.2⟩ : e = .returned (.bool nb) ∧ _)).mono ?_
      rintro e w5 ⟨rfl, hb⟩
      have n0_ := Lib.hid (below_step HB.out hb); have n1_ := Lib.hid (Kd.C_below Ct.out hb); have n2_ := Lib.hid (blk_below Bt.out hb); have n3_ := Lib.hid (blk_below Bs.out hb)
      clear HB Ct Bt Bs hb t0 t1 t2 t3 t4 s0 s1 s2
      have HB := n0_; have Ct := n1_; have Bt := n2_; have Bs := n3_
      clear n0_ n1_ n2_ n3_
      have t0 := blk_cell Bt.out 0; have t1 := blk_cell Bt.out 1; have t2 := blk_cell Bt.out 2; have t3 := blk_cell Bt.out 3; have t4 := blk_cell Bt.out 4
      simp only [List.getElem?_toArray, List.getElem?_cons_zero, List.getElem?_cons_succ] at t0 t1 t2 t3 t4
      have s0 := blk_cell Bs.out 0; have s1 := blk_cell Bs.out 1; have s2 := blk_cell Bs.out 2
      simp only [List.getElem?_toArray, List.getElem?_cons_zero, List.getElem?_cons_succ] at s0 s1 s2
      cases nb with
      | false =>
       have HR : Hid (may t = false) := Lib.hid (by rw [MI.out]; rw [VN.out]; simp)
       go_wp2_with fail
       go_ret
       exact ⟨by rw [HR.out]; rfl, HB.out⟩
      | true =>
       obtain ⟨ub, VU⟩ : ∃ q, Hid (number t.f0 t.f2 t.f4.length = q) := ⟨_, Lib.hid rfl⟩
       have hnum := TreeNm.number_is t.f0 t.f1 t.f2 t.f3 t.f4 hl9
       rw [VU.out] at hnum
       have NU := Lib.hid hnum
       clear hnum
       go_wp2_with fail
       refine (tree_number.calls t.f0 t.f1 t.f2 t.f3 _ _ t.f4 _ _ Ct.out hl NU.out).mono ?_
       rintro e w5 ⟨rfl, hb⟩
       have n0_ := Lib.hid (below_step HB.out hb); have n1_ := Lib.hid (Kd.C_below Ct.out hb); have n2_ := Lib.hid (blk_below Bt.out hb); have n3_ := Lib.hid (blk_below Bs.out hb)
       clear HB Ct Bt Bs hb t0 t1 t2 t3 t4 s0 s1 s2
       have HB := n0_; have Ct := n1_; have Bt := n2_; have Bs := n3_
       clear n0_ n1_ n2_ n3_
       have t0 := blk_cell Bt.out 0; have t1 := blk_cell Bt.out 1; have t2 := blk_cell Bt.out 2; have t3 := blk_cell Bt.out 3; have t4 := blk_cell Bt.out 4
       simp only [List.getElem?_toArray, List.getElem?_cons_zero, List.getElem?_cons_succ] at t0 t1 t2 t3 t4
       have s0 := blk_cell Bs.out 0; have s1 := blk_cell Bs.out 1; have s2 := blk_cell Bs.out 2
       simp only [List.getElem?_toArray, List.getElem?_cons_zero, List.getElem?_cons_succ] at s0 s1 s2
       clear NU
       cases ub with
       | false =>
        have HR : Hid (may t = false) := Lib.hid (by rw [MI.out]; rw [VU.out]; simp)
        go_wp2_with fail
        go_ret
        exact ⟨by rw [HR.out]; rfl, HB.out⟩
       | true =>
        rcases Classical.em (t.f3 < 0) with q | q
        ·have QN := Lib.hid q
         have ba : decide (t.f3 < 0) = true := decide_eq_true q
         clear q
         have HR : Hid (may t = false) := Lib.hid (by rw [MI.out]; rw [decide_eq_false (show ¬ (0 : Int) ≤ t.f3 by have := QN.out; omega)]; simp)
         go_wp2_with fail
         go_ret
         exact ⟨by rw [HR.out]; rfl, HB.out⟩
        ·have QN := Lib.hid q
         have ba : decide (t.f3 < 0) = false := decide_eq_false q
         clear q
         have QA : Hid ((0 : Int) ≤ t.f3) := Lib.hid (by have := QN.out; omega)
         clear QN
         have MP : Hid (may t = parts t.f0 t.f2 t.f4 0) := Lib.hid (by rw [MI.out, VN.out, VU.out, decide_eq_true QL.out, decide_eq_true QM.out, decide_eq_true QA.out]; simp)
         go_wp2_with fail
         go_loopw [52] (fun i wr => ∃ k : Nat, k ≤ t.f4.length ∧ i = .int .i64 k ∧ Hid (may t = parts t.f0 t.f2 (t.f4.drop k) (k : Int)) ∧ Hid (Below w5.heap.size w5 wr)) (fun i _ => t.f4.length - (intOf i).toNat)
         case atStart => exact ⟨0, Nat.zero_le _, rfl, Lib.hid (by rw [MP.out]; rfl), Lib.hid (Below.refl _ _)⟩
         case round =>
          obtain ⟨k, hk, rfl, HP, HBR⟩ := hrel
          have hb := HBR.out
          have n0_ := Lib.hid (below_step HB.out hb); have n1_ := Lib.hid (Kd.C_below Ct.out hb); have n2_ := Lib.hid (blk_below Bt.out hb); have n3_ := Lib.hid (blk_below Bs.out hb)
          clear HB Ct Bt Bs hb t0 t1 t2 t3 t4 s0 s1 s2
          have HB := n0_; have Ct := n1_; have Bt := n2_; have Bs := n3_
          clear n0_ n1_ n2_ n3_
          have t0 := blk_cell Bt.out 0; have t1 := blk_cell Bt.out 1; have t2 := blk_cell Bt.out 2; have t3 := blk_cell Bt.out 3; have t4 := blk_cell Bt.out 4
          simp only [List.getElem?_toArray, List.getElem?_cons_zero, List.getElem?_cons_succ] at t0 t1 t2 t3 t4
          have s0 := blk_cell Bs.out 0; have s1 := blk_cell Bs.out 1; have s2 := blk_cell Bs.out 2
          simp only [List.getElem?_toArray, List.getElem?_cons_zero, List.getElem?_cons_succ] at s0 s1 s2
          by_cases hlt : k < t.f4.length
          ·obtain ⟨pb, VP⟩ : ∃ q, Hid (HTree.part t.f0 t.f2 t.f4[k] (k : Int) = q) := ⟨_, Lib.hid rfl⟩
           have hdr : may t = (HTree.part t.f0 t.f2 t.f4[k] (k : Int) && parts t.f0 t.f2 (t.f4.drop (k + 1)) ((k : Int) + 1)) := by rw [HP.out, List.drop_eq_getElem_cons hlt, parts_cons]
           rw [VP.out] at hdr
           have HD := Lib.hid hdr
           have HM := Lib.hid (HH.out _ (List.getElem_mem hlt))
           clear hdr
           go_wp2_with fail
           refine ((part_any t k hlt hl9 HM.out _ _ _ Ct.out hl (HT.out.on HB.out).here).mono fun e w' h => (⟨h.1.trans (by rw [VP.out]), h.2⟩ : e = .returned (.bool pb) ∧ _)).mono ?_
           rintro e w6 ⟨rfl, hb⟩
           have HBR7 := Lib.hid (below_step HBR.out hb); have HB7 := Lib.hid (below_step HB.out hb)
           clear hb
           cases pb with
           | true =>
            go_wp2_with fail
            exact ⟨⟨k + 1, by omega, by first|rfl | go_num, Lib.hid (by rw [HD.out, Bool.true_and]; norm_cast), HBR7⟩, by simp [intOf]; omega⟩
           | false =>
            have HR : Hid (may t = false) := Lib.hid (by rw [HD.out, Bool.false_and])
            go_wp2_with fail
            go_ret
            exact ⟨by rw [HR.out]; rfl, HB7.out⟩
          ·have HR : Hid (may t = true) := Lib.hid (by rw [HP.out, List.drop_eq_nil_of_le (by omega)]; rfl)
           go_wp2_with fail
           go_ret
           exact ⟨by rw [HR.out]; rfl, HB.out⟩
  ·(try simp only [List.getElem_toArray, List.getElem_cons_succ, List.getElem_cons_zero])
   go_simp
   have hb : Below w9.heap.size w9 (w9.alloc (Obj.cells #[.int .i64 0, .int .i64 0, .int .i64 0] 36)) := below_alloc (Below.refl _ _) _
   have vb : (w9.alloc (Obj.cells #[.int .i64 0, .int .i64 0, .int .i64 0] 36)).heap[w9.heap.size]? = some (Obj.cells #[.int .i64 0, .int .i64 0, .int .i64 0] 36) := blk_new _ _
   generalize w9.alloc (Obj.cells #[.int .i64 0, .int .i64 0, .int .i64 0] 36) = wv at hb vb ⊢
   have mb2 := blk_below mb hb
   clear hlk
   have hlk := look t.f0 wv _ mb2
   clear mb2
   refine hK.out _ _ ?_ (fun hHeld => ?_)
   ·(try dsimp only); exact keep5 hHeld hb
   clear hK K
   (try simp only [Act.put, List.getElem_toArray, List.getElem_cons_succ, List.getElem_cons_zero, List.setIfInBounds_toArray, List.set_cons_zero, List.set_cons_succ])
   refine wpAnyH_ready (rs := [3]) (by kernel_rfl) (by simp) ?_
   refine AllReadyH.cons rfl (fun K hK => ?_) (AllReadyH.nil)
   (try simp only [List.getElem_toArray, List.getElem_cons_succ, List.getElem_cons_zero])
   go_simp
   refine hK.out _ _ ?_ (fun hHeld => ?_)
   ·(try dsimp only); exact hHeld
   clear hK K
   (try simp only [Act.put, List.getElem_toArray, List.getElem_cons_succ, List.getElem_cons_zero, List.setIfInBounds_toArray, List.set_cons_zero, List.set_cons_succ])
   refine wpAnyH_take (i := 4) (v := ?_) rfl (by kernel_rfl) (by kernel_rfl) (by kernel_rfl) (fun _ _ _ h => h) (Or.inl ⟨by rfl, ?_⟩) (by assumption) ?_
   rotate_left 1
   ·(intro w hSw; (try dsimp only at hSw); (try simp only [List.getElem_toArray, List.getElem_cons_succ, List.getElem_cons_zero]); go_simp; (try with_reducible rfl))
   (try simp only [Act.put, List.getElem_toArray, List.getElem_cons_succ, List.getElem_cons_zero, List.setIfInBounds_toArray, List.set_cons_zero, List.set_cons_succ])
   refine wpAnyH_take (i := 5) (v := ?_) rfl (by kernel_rfl) (by kernel_rfl) (by kernel_rfl) (fun _ _ _ h => h) (Or.inl ⟨by rfl, ?_⟩) (by assumption) ?_
   rotate_left 1
   ·(intro w hSw; (try dsimp only at hSw); (try simp only [List.getElem_toArray, List.getElem_cons_succ, List.getElem_cons_zero]); go_simp; (try with_reducible rfl))
   (try simp only [Act.put, List.getElem_toArray, List.getElem_cons_succ, List.getElem_cons_zero, List.setIfInBounds_toArray, List.set_cons_zero, List.set_cons_succ])
   refine wpAnyH_take (i := 6) (v := ?_) rfl (by kernel_rfl) (by kernel_rfl) (by kernel_rfl) (fun _ _ _ h => h) (Or.inl ⟨by rfl, ?_⟩) (by assumption) ?_
   rotate_left 1
   ·(intro w hSw; (try dsimp only at hSw); (try simp only [List.getElem_toArray, List.getElem_cons_succ, List.getElem_cons_zero]); go_simp; (try with_reducible rfl))
   (try simp only [Act.put, List.getElem_toArray, List.getElem_cons_succ, List.getElem_cons_zero, List.setIfInBounds_toArray, List.set_cons_zero, List.set_cons_succ])
   have v0 := blk_cell vb 0; have v1 := blk_cell vb 1; have v2 := blk_cell vb 2
   simp only [List.getElem?_toArray, List.getElem?_cons_zero, List.getElem?_cons_succ] at v0 v1 v2
   have z0 := blk_frozen vb 0; have z1 := blk_frozen vb 1; have z2 := blk_frozen vb 2
   have hge : wq.heap.size ≤ w9.heap.size := Nat.le_of_lt (blk_lt mb)
   refine wpAnyH_ready (rs := [8]) (by kernel_rfl) (by simp) ?_
   refine AllReadyH.cons rfl (fun K hK => ?_) (AllReadyH.nil)
   (try simp only [List.getElem_toArray, List.getElem_cons_succ, List.getElem_cons_zero])
   go_simp
   have vb2 : (((wv.setCell ⟨w9.heap.size, 0, none⟩ (.int .i64 (what t.f0))).setCell ⟨w9.heap.size, 1, none⟩ (.int .i64 (least t.f0))).setCell ⟨w9.heap.size, 2, none⟩ (.int .i64 (most t.f0))).heap[w9.heap.size]? = some (Obj.cells #[.int .i64 (what t.f0), .int .i64 (least t.f0), .int .i64 (most t.f0)] 36) := blk_put (blk_put (blk_put vb 0 (.int .i64 (what t.f0)) rfl) 1 (.int .i64 (least t.f0)) rfl) 2 (.int .i64 (most t.f0)) rfl
   have hbs : Below wq.heap.size wq (((wv.setCell ⟨w9.heap.size, 0, none⟩ (.int .i64 (what t.f0))).setCell ⟨w9.heap.size, 1, none⟩ (.int .i64 (least t.f0))).setCell ⟨w9.heap.size, 2, none⟩ (.int .i64 (most t.f0))) := below_set (below_set (below_set hHeld.2.2.2.2.2 hge) hge) hge
   generalize (((wv.setCell ⟨w9.heap.size, 0, none⟩ (.int .i64 (what t.f0))).setCell ⟨w9.heap.size, 1, none⟩ (.int .i64 (least t.f0))).setCell ⟨w9.heap.size, 2, none⟩ (.int .i64 (most t.f0))) = ws at vb2 hbs ⊢
   refine hK.out _ _ ?_ (fun hHeld => ?_)
   ·(try dsimp only); exact keep5 ⟨t0, t1, t2, t3, t4, Below.refl _ _⟩ hbs
   clear hK K
   (try simp only [Act.put, List.getElem_toArray, List.getElem_cons_succ, List.getElem_cons_zero, List.setIfInBounds_toArray, List.set_cons_zero, List.set_cons_succ])
   refine wpAnyH_take (i := 9) (v := ?_) rfl (by kernel_rfl) (by kernel_rfl) (by kernel_rfl) (fun _ _ _ h => h) (Or.inl ⟨by rfl, ?_⟩) (by assumption) ?_
   rotate_left 1
   ·(intro w hSw; (try dsimp only at hSw); (try simp only [List.getElem_toArray, List.getElem_cons_succ, List.getElem_cons_zero]); go_simp; (try with_reducible rfl))
   (try simp only [Act.put, List.getElem_toArray, List.getElem_cons_succ, List.getElem_cons_zero, List.setIfInBounds_toArray, List.set_cons_zero, List.set_cons_succ])
   refine wpAnyH_done (by kernel_rfl) ?_ _
   have Bs := Lib.hid vb2
   have n0_ := Lib.hid (below_step HB.out hbs); have n1_ := Lib.hid (Kd.C_below Ct.out hbs); have n2_ := Lib.hid (blk_below Bt.out hbs)
   clear HB Ct Bt vb vb2 hbs hHeld v0 v1 v2 z0 z1 z2 hlk mb t0 t1 t2 t3 t4 hge
   have HB := n0_; have Ct := n1_; have Bt := n2_
   clear n0_ n1_ n2_
   generalize w9.heap.size = gb at Bs ⊢
   have t0 := blk_cell Bt.out 0; have t1 := blk_cell Bt.out 1; have t2 := blk_cell Bt.out 2; have t3 := blk_cell Bt.out 3; have t4 := blk_cell Bt.out 4
   simp only [List.getElem?_toArray, List.getElem?_cons_zero, List.getElem?_cons_succ] at t0 t1 t2 t3 t4
   have s0 := blk_cell Bs.out 0; have s1 := blk_cell Bs.out 1; have s2 := blk_cell Bs.out 2
   simp only [List.getElem?_toArray, List.getElem?_cons_zero, List.getElem?_cons_succ] at s0 s1 s2
   have MI := Lib.hid (may_is t)
   generalize hwh : what t.f0 = wh at *
   generalize hle : least t.f0 = le at *
   generalize hmo : most t.f0 = mo at *
   generalize hkn : known t.f0 = kn at *
   clear hwh hle hmo hkn
   cases kn with
   | false =>
    have HR : Hid (may t = false) := Lib.hid (by rw [MI.out]; simp)
    go_wp2_with fail
    go_ret
    exact ⟨by rw [HR.out]; rfl, HB.out⟩
   | true =>
    rcases Classical.em ((t.f4.length : Int) < le) with q | q
    ·have QN := Lib.hid q
     have bl : decide ((t.f4.length : Int) < le) = true := decide_eq_true q
     clear q
     have HR : Hid (may t = false) := Lib.hid (by rw [MI.out]; rw [decide_eq_false (show ¬ le ≤ (t.f4.length : Int) by have := QN.out; omega)]; simp)
     go_wp2_with fail
     go_ret
     exact ⟨by rw [HR.out]; rfl, HB.out⟩
    ·have QN := Lib.hid q
     have bl : decide ((t.f4.length : Int) < le) = false := decide_eq_false q
     clear q
     have QL : Hid (le ≤ (t.f4.length : Int)) := Lib.hid (by have := QN.out; omega)
     clear QN
     rcases Classical.em ((t.f4.length : Int) > mo) with q | q
     ·have QN := Lib.hid q
      have bm : decide ((t.f4.length : Int) > mo) = true := decide_eq_true q
      have bm2 : decide (mo < (t.f4.length : Int)) = true := decide_eq_true q
      clear q
      have HR : Hid (may t = false) := Lib.hid (by rw [MI.out]; rw [decide_eq_false (show ¬ (t.f4.length : Int) ≤ mo by have := QN.out; omega)]; simp)
      go_wp2_with fail
      go_ret
      exact ⟨by rw [HR.out]; rfl, HB.out⟩
     ·have QN := Lib.hid q
      have bm : decide ((t.f4.length : Int) > mo) = false := decide_eq_false q
      have bm2 : decide (mo < (t.f4.length : Int)) = false := decide_eq_false q
      clear q
      have QM : Hid ((t.f4.length : Int) ≤ mo) := Lib.hid (by have := QN.out; omega)
      clear QN
      obtain ⟨nb, VN⟩ : ∃ q, Hid (named t.f1 wh = q) := ⟨_, Lib.hid rfl⟩
      go_wp2_with fail
      refine ((TreeNm.named_any t.f1 wh hs _ (HT.out.on HB.out).here).mono fun e w' h => (⟨h.1.trans (by rw [VN.out]), h.2⟩ : e = .returned (.bool nb) ∧ _)).mono ?_
      rintro e w5 ⟨rfl, hb⟩
      have n0_ := Lib.hid (below_step HB.out hb); have n1_ := Lib.hid (Kd.C_below Ct.out hb); have n2_ := Lib.hid (blk_below Bt.out hb); have n3_ := Lib.hid (blk_below Bs.out hb)
      clear HB Ct Bt Bs hb t0 t1 t2 t3 t4 s0 s1 s2
      have HB := n0_; have Ct := n1_; have Bt := n2_; have Bs := n3_
      clear n0_ n1_ n2_ n3_
      have t0 := blk_cell Bt.out 0; have t1 := blk_cell Bt.out 1; have t2 := blk_cell Bt.out 2; have t3 := blk_cell Bt.out 3; have t4 := blk_cell Bt.out 4
      simp only [List.getElem?_toArray, List.getElem?_cons_zero, List.getElem?_cons_succ] at t0 t1 t2 t3 t4
      have s0 := blk_cell Bs.out 0; have s1 := blk_cell Bs.out 1; have s2 := blk_cell Bs.out 2
      simp only [List.getElem?_toArray, List.getElem?_cons_zero, List.getElem?_cons_succ] at s0 s1 s2
      cases nb with
      | false =>
       have HR : Hid (may t = false) := Lib.hid (by rw [MI.out]; rw [VN.out]; simp)
       go_wp2_with fail
       go_ret
       exact ⟨by rw [HR.out]; rfl, HB.out⟩
      | true =>
       obtain ⟨ub, VU⟩ : ∃ q, Hid (number t.f0 t.f2 t.f4.length = q) := ⟨_, Lib.hid rfl⟩
       have hnum := TreeNm.number_is t.f0 t.f1 t.f2 t.f3 t.f4 hl9
       rw [VU.out] at hnum
       have NU := Lib.hid hnum
       clear hnum
       go_wp2_with fail
       refine (tree_number.calls t.f0 t.f1 t.f2 t.f3 _ _ t.f4 _ _ Ct.out hl NU.out).mono ?_
       rintro e w5 ⟨rfl, hb⟩
       have n0_ := Lib.hid (below_step HB.out hb); have n1_ := Lib.hid (Kd.C_below Ct.out hb); have n2_ := Lib.hid (blk_below Bt.out hb); have n3_ := Lib.hid (blk_below Bs.out hb)
       clear HB Ct Bt Bs hb t0 t1 t2 t3 t4 s0 s1 s2
       have HB := n0_; have Ct := n1_; have Bt := n2_; have Bs := n3_
       clear n0_ n1_ n2_ n3_
       have t0 := blk_cell Bt.out 0; have t1 := blk_cell Bt.out 1; have t2 := blk_cell Bt.out 2; have t3 := blk_cell Bt.out 3; have t4 := blk_cell Bt.out 4
       simp only [List.getElem?_toArray, List.getElem?_cons_zero, List.getElem?_cons_succ] at t0 t1 t2 t3 t4
       have s0 := blk_cell Bs.out 0; have s1 := blk_cell Bs.out 1; have s2 := blk_cell Bs.out 2
       simp only [List.getElem?_toArray, List.getElem?_cons_zero, List.getElem?_cons_succ] at s0 s1 s2
       clear NU
       cases ub with
       | false =>
        have HR : Hid (may t = false) := Lib.hid (by rw [MI.out]; rw [VU.out]; simp)
        go_wp2_with fail
        go_ret
        exact ⟨by rw [HR.out]; rfl, HB.out⟩
       | true =>
        rcases Classical.em (t.f3 < 0) with q | q
        ·have QN := Lib.hid q
         have ba : decide (t.f3 < 0) = true := decide_eq_true q
         clear q
         have HR : Hid (may t = false) := Lib.hid (by rw [MI.out]; rw [decide_eq_false (show ¬ (0 : Int) ≤ t.f3 by have := QN.out; omega)]; simp)
         go_wp2_with fail
         go_ret
         exact ⟨by rw [HR.out]; rfl, HB.out⟩
        ·have QN := Lib.hid q
         have ba : decide (t.f3 < 0) = false := decide_eq_false q
         clear q
         have QA : Hid ((0 : Int) ≤ t.f3) := Lib.hid (by have := QN.out; omega)
         clear QN
         have MP : Hid (may t = parts t.f0 t.f2 t.f4 0) := Lib.hid (by rw [MI.out, VN.out, VU.out, decide_eq_true QL.out, decide_eq_true QM.out, decide_eq_true QA.out]; simp)
         go_wp2_with fail
         go_loopw [52] (fun i wr => ∃ k : Nat, k ≤ t.f4.length ∧ i = .int .i64 k ∧ Hid (may t = parts t.f0 t.f2 (t.f4.drop k) (k : Int)) ∧ Hid (Below w5.heap.size w5 wr)) (fun i _ => t.f4.length - (intOf i).toNat)
         case atStart => exact ⟨0, Nat.zero_le _, rfl, Lib.hid (by rw [MP.out]; rfl), Lib.hid (Below.refl _ _)⟩
         case round =>
          obtain ⟨k, hk, rfl, HP, HBR⟩ := hrel
          have hb := HBR.out
          have n0_ := Lib.hid (below_step HB.out hb); have n1_ := Lib.hid (Kd.C_below Ct.out hb); have n2_ := Lib.hid (blk_below Bt.out hb); have n3_ := Lib.hid (blk_below Bs.out hb)
          clear HB Ct Bt Bs hb t0 t1 t2 t3 t4 s0 s1 s2
          have HB := n0_; have Ct := n1_; have Bt := n2_; have Bs := n3_
          clear n0_ n1_ n2_ n3_
          have t0 := blk_cell Bt.out 0; have t1 := blk_cell Bt.out 1; have t2 := blk_cell Bt.out 2; have t3 := blk_cell Bt.out 3; have t4 := blk_cell Bt.out 4
          simp only [List.getElem?_toArray, List.getElem?_cons_zero, List.getElem?_cons_succ] at t0 t1 t2 t3 t4
          have s0 := blk_cell Bs.out 0; have s1 := blk_cell Bs.out 1; have s2 := blk_cell Bs.out 2
          simp only [List.getElem?_toArray, List.getElem?_cons_zero, List.getElem?_cons_succ] at s0 s1 s2
          by_cases hlt : k < t.f4.length
          ·obtain ⟨pb, VP⟩ : ∃ q, Hid (HTree.part t.f0 t.f2 t.f4[k] (k : Int) = q) := ⟨_, Lib.hid rfl⟩
           have hdr : may t = (HTree.part t.f0 t.f2 t.f4[k] (k : Int) && parts t.f0 t.f2 (t.f4.drop (k + 1)) ((k : Int) + 1)) := by rw [HP.out, List.drop_eq_getElem_cons hlt, parts_cons]
           rw [VP.out] at hdr
           have HD := Lib.hid hdr
           have HM := Lib.hid (HH.out _ (List.getElem_mem hlt))
           clear hdr
           go_wp2_with fail
           refine ((part_any t k hlt hl9 HM.out _ _ _ Ct.out hl (HT.out.on HB.out).here).mono fun e w' h => (⟨h.1.trans (by rw [VP.out]), h.2⟩ : e = .returned (.bool pb) ∧ _)).mono ?_
           rintro e w6 ⟨rfl, hb⟩
           have HBR7 := Lib.hid (below_step HBR.out hb); have HB7 := Lib.hid (below_step HB.out hb)
           clear hb
           cases pb with
           | true =>
            go_wp2_with fail
            exact ⟨⟨k + 1, by omega, by first|rfl | go_num, Lib.hid (by rw [HD.out, Bool.true_and]; norm_cast), HBR7⟩, by simp [intOf]; omega⟩
           | false =>
            have HR : Hid (may t = false) := Lib.hid (by rw [HD.out, Bool.false_and])
            go_wp2_with fail
            go_ret
            exact ⟨by rw [HR.out]; rfl, HB7.out⟩
          ·have HR : Hid (may t = true) := Lib.hid (by rw [HP.out, List.drop_eq_nil_of_le (by omega)]; rfl)
           go_wp2_with fail
           go_ret
           exact ⟨by rw [HR.out]; rfl, HB.out⟩
 ·(try simp only [List.getElem_toArray, List.getElem_cons_succ, List.getElem_cons_zero])
  go_simp
  have hb : Below wq.drew.heap.size wq.drew ((wq.alloc (Obj.cells #[.int .i64 0, .int .i64 0, .int .i64 0] 36)).drew) := below_alloc (Below.refl _ _) _
  have vb : ((wq.alloc (Obj.cells #[.int .i64 0, .int .i64 0, .int .i64 0] 36)).drew).heap[wq.heap.size]? = some (Obj.cells #[.int .i64 0, .int .i64 0, .int .i64 0] 36) := blk_new _ _
  generalize (wq.alloc (Obj.cells #[.int .i64 0, .int .i64 0, .int .i64 0] 36)).drew = wa at hb vb ⊢
  refine hK.out _ _ ?_ (fun hHeld => ?_)
  ·(try dsimp only); exact keep5 hHeld hb
  clear hK K
  (try simp only [Act.put, List.getElem_toArray, List.getElem_cons_succ, List.getElem_cons_zero, List.setIfInBounds_toArray, List.set_cons_zero, List.set_cons_succ])
  refine wpAnyH_ready (rs := [0]) (by kernel_rfl) (by simp) ?_
  refine AllReadyH.cons rfl (fun K hK => ?_) (AllReadyH.nil)
  (try simp only [List.getElem_toArray, List.getElem_cons_succ, List.getElem_cons_zero])
  go_simp
  refine (TreeMap.shapes_any _).mono ?_
  rintro e w9 ⟨rfl, h9⟩
  have mb : w9.heap[wa.heap.size]? = some (Obj.map (TreeMap.ents 10) 10) := by rw [h9]; exact blk_new _ _
  have hb : Below wa.heap.size wa w9 := by rw [h9]; exact below_alloc (Below.refl _ _) _
  clear h9
  have vb2 := blk_below vb hb
  clear vb
  have vb := vb2
  clear vb2
  simp only []
  refine hK.out _ _ ?_ (fun hHeld => ?_)
  ·(try dsimp only); exact keep5 hHeld hb
  clear hK K
  (try simp only [Act.put, List.getElem_toArray, List.getElem_cons_succ, List.getElem_cons_zero, List.setIfInBounds_toArray, List.set_cons_zero, List.set_cons_succ])
  have hlk := look t.f0 w9 _ mb
  refine wpAnyH_ready (rs := [3]) (by kernel_rfl) (by simp) ?_
  refine AllReadyH.cons rfl (fun K hK => ?_) (AllReadyH.nil)
  (try simp only [List.getElem_toArray, List.getElem_cons_succ, List.getElem_cons_zero])
  go_simp
  refine hK.out _ _ ?_ (fun hHeld => ?_)
  ·(try dsimp only); exact hHeld
  clear hK K
  (try simp only [Act.put, List.getElem_toArray, List.getElem_cons_succ, List.getElem_cons_zero, List.setIfInBounds_toArray, List.set_cons_zero, List.set_cons_succ])
  refine wpAnyH_take (i := 4) (v := ?_) rfl (by kernel_rfl) (by kernel_rfl) (by kernel_rfl) (fun _ _ _ h => h) (Or.inl ⟨by rfl, ?_⟩) (by assumption) ?_
  rotate_left 1
  ·(intro w hSw; (try dsimp only at hSw); (try simp only [List.getElem_toArray, List.getElem_cons_succ, List.getElem_cons_zero]); go_simp; (try with_reducible rfl))
  (try simp only [Act.put, List.getElem_toArray, List.getElem_cons_succ, List.getElem_cons_zero, List.setIfInBounds_toArray, List.set_cons_zero, List.set_cons_succ])
  refine wpAnyH_take (i := 5) (v := ?_) rfl (by kernel_rfl) (by kernel_rfl) (by kernel_rfl) (fun _ _ _ h => h) (Or.inl ⟨by rfl, ?_⟩) (by assumption) ?_
  rotate_left 1
  ·(intro w hSw; (try dsimp only at hSw); (try simp only [List.getElem_toArray, List.getElem_cons_succ, List.getElem_cons_zero]); go_simp; (try with_reducible rfl))
  (try simp only [Act.put, List.getElem_toArray, List.getElem_cons_succ, List.getElem_cons_zero, List.setIfInBounds_toArray, List.set_cons_zero, List.set_cons_succ])
  refine wpAnyH_take (i := 6) (v := ?_) rfl (by kernel_rfl) (by kernel_rfl) (by kernel_rfl) (fun _ _ _ h => h) (Or.inl ⟨by rfl, ?_⟩) (by assumption) ?_
  rotate_left 1
  ·(intro w hSw; (try dsimp only at hSw); (try simp only [List.getElem_toArray, List.getElem_cons_succ, List.getElem_cons_zero]); go_simp; (try with_reducible rfl))
  (try simp only [Act.put, List.getElem_toArray, List.getElem_cons_succ, List.getElem_cons_zero, List.setIfInBounds_toArray, List.set_cons_zero, List.set_cons_succ])
  have v0 := blk_cell vb 0; have v1 := blk_cell vb 1; have v2 := blk_cell vb 2
  simp only [List.getElem?_toArray, List.getElem?_cons_zero, List.getElem?_cons_succ] at v0 v1 v2
  have z0 := blk_frozen vb 0; have z1 := blk_frozen vb 1; have z2 := blk_frozen vb 2
  have hge : wq.heap.size ≤ wq.heap.size := Nat.le_refl _
  refine wpAnyH_ready (rs := [8]) (by kernel_rfl) (by simp) ?_
  refine AllReadyH.cons rfl (fun K hK => ?_) (AllReadyH.nil)
  (try simp only [List.getElem_toArray, List.getElem_cons_succ, List.getElem_cons_zero])
  go_simp
  have vb2 : (((w9.setCell ⟨wq.heap.size, 0, none⟩ (.int .i64 (what t.f0))).setCell ⟨wq.heap.size, 1, none⟩ (.int .i64 (least t.f0))).setCell ⟨wq.heap.size, 2, none⟩ (.int .i64 (most t.f0))).heap[wq.heap.size]? = some (Obj.cells #[.int .i64 (what t.f0), .int .i64 (least t.f0), .int .i64 (most t.f0)] 36) := blk_put (blk_put (blk_put vb 0 (.int .i64 (what t.f0)) rfl) 1 (.int .i64 (least t.f0)) rfl) 2 (.int .i64 (most t.f0)) rfl
  have hbs : Below wq.heap.size wq (((w9.setCell ⟨wq.heap.size, 0, none⟩ (.int .i64 (what t.f0))).setCell ⟨wq.heap.size, 1, none⟩ (.int .i64 (least t.f0))).setCell ⟨wq.heap.size, 2, none⟩ (.int .i64 (most t.f0))) := below_set (below_set (below_set hHeld.2.2.2.2.2 hge) hge) hge
  generalize (((w9.setCell ⟨wq.heap.size, 0, none⟩ (.int .i64 (what t.f0))).setCell ⟨wq.heap.size, 1, none⟩ (.int .i64 (least t.f0))).setCell ⟨wq.heap.size, 2, none⟩ (.int .i64 (most t.f0))) = ws at vb2 hbs ⊢
  refine hK.out _ _ ?_ (fun hHeld => ?_)
  ·(try dsimp only); exact keep5 ⟨t0, t1, t2, t3, t4, Below.refl _ _⟩ hbs
  clear hK K
  (try simp only [Act.put, List.getElem_toArray, List.getElem_cons_succ, List.getElem_cons_zero, List.setIfInBounds_toArray, List.set_cons_zero, List.set_cons_succ])
  refine wpAnyH_take (i := 9) (v := ?_) rfl (by kernel_rfl) (by kernel_rfl) (by kernel_rfl) (fun _ _ _ h => h) (Or.inl ⟨by rfl, ?_⟩) (by assumption) ?_
  rotate_left 1
  ·(intro w hSw; (try dsimp only at hSw); (try simp only [List.getElem_toArray, List.getElem_cons_succ, List.getElem_cons_zero]); go_simp; (try with_reducible rfl))
  (try simp only [Act.put, List.getElem_toArray, List.getElem_cons_succ, List.getElem_cons_zero, List.setIfInBounds_toArray, List.set_cons_zero, List.set_cons_succ])
  refine wpAnyH_done (by kernel_rfl) ?_ _
  have Bs := Lib.hid vb2
  have n0_ := Lib.hid (below_step HB.out hbs); have n1_ := Lib.hid (Kd.C_below Ct.out hbs); have n2_ := Lib.hid (blk_below Bt.out hbs)
  clear HB Ct Bt vb vb2 hbs hHeld v0 v1 v2 z0 z1 z2 hlk mb t0 t1 t2 t3 t4 hge
  have HB := n0_; have Ct := n1_; have Bt := n2_
  clear n0_ n1_ n2_
  generalize wq.heap.size = gb at Bs ⊢
  have t0 := blk_cell Bt.out 0; have t1 := blk_cell Bt.out 1; have t2 := blk_cell Bt.out 2; have t3 := blk_cell Bt.out 3; have t4 := blk_cell Bt.out 4
  simp only [List.getElem?_toArray, List.getElem?_cons_zero, List.getElem?_cons_succ] at t0 t1 t2 t3 t4
  have s0 := blk_cell Bs.out 0; have s1 := blk_cell Bs.out 1; have s2 := blk_cell Bs.out 2
  simp only [List.getElem?_toArray, List.getElem?_cons_zero, List.getElem?_cons_succ] at s0 s1 s2
  have MI := Lib.hid (may_is t)
  generalize hwh : what t.f0 = wh at *
  generalize hle : least t.f0 = le at *
  generalize hmo : most t.f0 = mo at *
  generalize hkn : known t.f0 = kn at *
  clear hwh hle hmo hkn
  cases kn with
  | false =>
   have HR : Hid (may t = false) := Lib.hid (by rw [MI.out]; simp)
   go_wp2_with fail
   go_ret
   exact ⟨by rw [HR.out]; rfl, HB.out⟩
  | true =>
   rcases Classical.em ((t.f4.length : Int) < le) with q | q
   ·have QN := Lib.hid q
    have bl : decide ((t.f4.length : Int) < le) = true := decide_eq_true q
    clear q
    have HR : Hid (may t = false) := Lib.hid (by rw [MI.out]; rw [decide_eq_false (show ¬ le ≤ (t.f4.length : Int) by have := QN.out; omega)]; simp)
    go_wp2_with fail
    go_ret
    exact ⟨by rw [HR.out]; rfl, HB.out⟩
   ·have QN := Lib.hid q
    have bl : decide ((t.f4.length : Int) < le) = false := decide_eq_false q
    clear q
    have QL : Hid (le ≤ (t.f4.length : Int)) := Lib.hid (by have := QN.out; omega)
    clear QN
    rcases Classical.em ((t.f4.length : Int) > mo) with q | q
    ·have QN := Lib.hid q
     have bm : decide ((t.f4.length : Int) > mo) = true := decide_eq_true q
     have bm2 : decide (mo < (t.f4.length : Int)) = true := decide_eq_true q
     clear q
     have HR : Hid (may t = false) := Lib.hid (by rw [MI.out]; rw [decide_eq_false (show ¬ (t.f4.length : Int) ≤ mo by have := QN.out; omega)]; simp)
     go_wp2_with fail
     go_ret
     exact ⟨by rw [HR.out]; rfl, HB.out⟩
    ·have QN := Lib.hid q
     have bm : decide ((t.f4.length : Int) > mo) = false := decide_eq_false q
     have bm2 : decide (mo < (t.f4.length : Int)) = false := decide_eq_false q
     clear q
     have QM : Hid ((t.f4.length : Int) ≤ mo) := Lib.hid (by have := QN.out; omega)
     clear QN
     obtain ⟨nb, VN⟩ : ∃ q, Hid (named t.f1 wh = q) := ⟨_, Lib.hid rfl⟩
     go_wp2_with fail
     refine ((TreeNm.named_any t.f1 wh hs _ (HT.out.on HB.out).here).mono fun e w' h => (⟨h.1.trans (by rw [VN.out]), h.2⟩ : e = .returned (.bool nb) ∧ _)).mono ?_
     rintro e w5 ⟨rfl, hb⟩
     have n0_ := Lib.hid (below_step HB.out hb); have n1_ := Lib.hid (Kd.C_below Ct.out hb); have n2_ := Lib.hid (blk_below Bt.out hb); have n3_ := Lib.hid (blk_below Bs.out hb)
     clear HB Ct Bt Bs hb t0 t1 t2 t3 t4 s0 s1 s2
     have HB := n0_; have Ct := n1_; have Bt := n2_; have Bs := n3_
     clear n0_ n1_ n2_ n3_
     have t0 := blk_cell Bt.out 0; have t1 := blk_cell Bt.out 1; have t2 := blk_cell Bt.out 2; have t3 := blk_cell Bt.out 3; have t4 := blk_cell Bt.out 4
     simp only [List.getElem?_toArray, List.getElem?_cons_zero, List.getElem?_cons_succ] at t0 t1 t2 t3 t4
     have s0 := blk_cell Bs.out 0; have s1 := blk_cell Bs.out 1; have s2 := blk_cell Bs.out 2
     simp only [List.getElem?_toArray, List.getElem?_cons_zero, List.getElem?_cons_succ] at s0 s1 s2
     cases nb with
     | false =>
      have HR : Hid (may t = false) := Lib.hid (by rw [MI.out]; rw [VN.out]; simp)
      go_wp2_with fail
      go_ret
      exact ⟨by rw [HR.out]; rfl, HB.out⟩
     | true =>
      obtain ⟨ub, VU⟩ : ∃ q, Hid (number t.f0 t.f2 t.f4.length = q) := ⟨_, Lib.hid rfl⟩
      have hnum := TreeNm.number_is t.f0 t.f1 t.f2 t.f3 t.f4 hl9
      rw [VU.out] at hnum
      have NU := Lib.hid hnum
      clear hnum
      go_wp2_with fail
      refine (tree_number.calls t.f0 t.f1 t.f2 t.f3 _ _ t.f4 _ _ Ct.out hl NU.out).mono ?_
      rintro e w5 ⟨rfl, hb⟩
      have n0_ := Lib.hid (below_step HB.out hb); have n1_ := Lib.hid (Kd.C_below Ct.out hb); have n2_ := Lib.hid (blk_below Bt.out hb); have n3_ := Lib.hid (blk_below Bs.out hb)
      clear HB Ct Bt Bs hb t0 t1 t2 t3 t4 s0 s1 s2
      have HB := n0_; have Ct := n1_; have Bt := n2_; have Bs := n3_
      clear n0_ n1_ n2_ n3_
      have t0 := blk_cell Bt.out 0; have t1 := blk_cell Bt.out 1; have t2 := blk_cell Bt.out 2; have t3 := blk_cell Bt.out 3; have t4 := blk_cell Bt.out 4
      simp only [List.getElem?_toArray, List.getElem?_cons_zero, List.getElem?_cons_succ] at t0 t1 t2 t3 t4
      have s0 := blk_cell Bs.out 0; have s1 := blk_cell Bs.out 1; have s2 := blk_cell Bs.out 2
      simp only [List.getElem?_toArray, List.getElem?_cons_zero, List.getElem?_cons_succ] at s0 s1 s2
      clear NU
      cases ub with
      | false =>
       have HR : Hid (may t = false) := Lib.hid (by rw [MI.out]; rw [VU.out]; simp)
       go_wp2_with fail
       go_ret
       exact ⟨by rw [HR.out]; rfl, HB.out⟩
      | true =>
       rcases Classical.em (t.f3 < 0) with q | q
       ·have QN := Lib.hid q
        have ba : decide (t.f3 < 0) = true := decide_eq_true q
        clear q
        have HR : Hid (may t = false) := Lib.hid (by rw [MI.out]; rw [decide_eq_false (show ¬ (0 : Int) ≤ t.f3 by have := QN.out; omega)]; simp)
        go_wp2_with fail
        go_ret
        exact ⟨by rw [HR.out]; rfl, HB.out⟩
       ·have QN := Lib.hid q
        have ba : decide (t.f3 < 0) = false := decide_eq_false q
        clear q
        have QA : Hid ((0 : Int) ≤ t.f3) := Lib.hid (by have := QN.out; omega)
        clear QN
        have MP : Hid (may t = parts t.f0 t.f2 t.f4 0) := Lib.hid (by rw [MI.out, VN.out, VU.out, decide_eq_true QL.out, decide_eq_true QM.out, decide_eq_true QA.out]; simp)
        go_wp2_with fail
        go_loopw [52] (fun i wr => ∃ k : Nat, k ≤ t.f4.length ∧ i = .int .i64 k ∧ Hid (may t = parts t.f0 t.f2 (t.f4.drop k) (k : Int)) ∧ Hid (Below w5.heap.size w5 wr)) (fun i _ => t.f4.length - (intOf i).toNat)
        case atStart => exact ⟨0, Nat.zero_le _, rfl, Lib.hid (by rw [MP.out]; rfl), Lib.hid (Below.refl _ _)⟩
        case round =>
         obtain ⟨k, hk, rfl, HP, HBR⟩ := hrel
         have hb := HBR.out
         have n0_ := Lib.hid (below_step HB.out hb); have n1_ := Lib.hid (Kd.C_below Ct.out hb); have n2_ := Lib.hid (blk_below Bt.out hb); have n3_ := Lib.hid (blk_below Bs.out hb)
         clear HB Ct Bt Bs hb t0 t1 t2 t3 t4 s0 s1 s2
         have HB := n0_; have Ct := n1_; have Bt := n2_; have Bs := n3_
         clear n0_ n1_ n2_ n3_
         have t0 := blk_cell Bt.out 0; have t1 := blk_cell Bt.out 1; have t2 := blk_cell Bt.out 2; have t3 := blk_cell Bt.out 3; have t4 := blk_cell Bt.out 4
         simp only [List.getElem?_toArray, List.getElem?_cons_zero, List.getElem?_cons_succ] at t0 t1 t2 t3 t4
         have s0 := blk_cell Bs.out 0; have s1 := blk_cell Bs.out 1; have s2 := blk_cell Bs.out 2
         simp only [List.getElem?_toArray, List.getElem?_cons_zero, List.getElem?_cons_succ] at s0 s1 s2
         by_cases hlt : k < t.f4.length
         ·obtain ⟨pb, VP⟩ : ∃ q, Hid (HTree.part t.f0 t.f2 t.f4[k] (k : Int) = q) := ⟨_, Lib.hid rfl⟩
          have hdr : may t = (HTree.part t.f0 t.f2 t.f4[k] (k : Int) && parts t.f0 t.f2 (t.f4.drop (k + 1)) ((k : Int) + 1)) := by rw [HP.out, List.drop_eq_getElem_cons hlt, parts_cons]
          rw [VP.out] at hdr
          have HD := Lib.hid hdr
          have HM := Lib.hid (HH.out _ (List.getElem_mem hlt))
          clear hdr
          go_wp2_with fail
          refine ((part_any t k hlt hl9 HM.out _ _ _ Ct.out hl (HT.out.on HB.out).here).mono fun e w' h => (⟨h.1.trans (by rw [VP.out]), h.2⟩ : e = .returned (.bool pb) ∧ _)).mono ?_
          rintro e w6 ⟨rfl, hb⟩
          have HBR7 := Lib.hid (below_step HBR.out hb); have HB7 := Lib.hid (below_step HB.out hb)
          clear hb
          cases pb with
          | true =>
           go_wp2_with fail
           exact ⟨⟨k + 1, by omega, by first|rfl | go_num, Lib.hid (by rw [HD.out, Bool.true_and]; norm_cast), HBR7⟩, by simp [intOf]; omega⟩
          | false =>
           have HR : Hid (may t = false) := Lib.hid (by rw [HD.out, Bool.false_and])
           go_wp2_with fail
           go_ret
           exact ⟨by rw [HR.out]; rfl, HB7.out⟩
         ·have HR : Hid (may t = true) := Lib.hid (by rw [HP.out, List.drop_eq_nil_of_le (by omega)]; rfl)
          go_wp2_with fail
          go_ret
          exact ⟨by rw [HR.out]; rfl, HB.out⟩
end TreeMay
end Go.Proofs.YthdkjfhpbigdpaaGreatDoor.Pure

namespace Go.Proofs.YthdkjfhpbigdpaaGreatDoor.Pure
open Go Go.RowKit Go.Lib Go.Proofs Go.Proofs.YthdkjfhpbigdpaaGreatDoor.Q Go.Proofs.YthdkjfhpbigdpaaGreatDoorW.PrintWords Go.Proofs.YthdkjfhpbigdpaaGreatDoorW.PrintLast Go.Proofs.YthdkjfhpbigdpaaGreatDoorW.PrintMore
open HTree
namespace TreeMay
set_option linter.unusedVariables false
set_option linter.unusedSimpArgs false
theorem may_any : ∀ (n : Nat) (x : T), height x ≤ n → wt x ≤ 1000000000 → MayC x
 | 0, x, hn, _ => by cases x; simp only [height] at hn; omega
 | n + 1, x, hn, hw => by
  have hh : height x = heights x.f4 + 1 := by cases x; rfl
  have hwx : wts x.f4 ≤ wt x := by cases x; simp only [wt]; omega
  have hsx : x.f1.size ≤ wt x := by cases x; simp only [wt]; omega
  have := len_wts x.f4
  exact may_step x (by omega) (by omega) fun y hy => may_any n y (by have := height_get hy; omega) (by have := wt_get hy; omega)
set_option maxRecDepth 100000 in
theorem whole_any (x : T) (hw : wt x ≤ 1000000000) (w : World) (A : Option Addr) (c : Nat) (hC : Kd.C k24 w A x.f4.length x.f4) (hl : x.f4.length ≤ c) (htab : Lib.TabIs Tryz.prog w "strings.asciiSpace" .u8 Lib.asciiSpaceTab) :
  Calls Tryz.prog 6 #[.agg #[.int .i64 x.f0, .string x.f1, .int .i64 x.f2, .int .i64 x.f3, .slice A x.f4.length c]] w fun e w' => e = .returned (.bool (whole x)) ∧ Below w.heap.size w w' := by
 have HT := Lib.hid (tabBelow_of_tabIs htab)
 have HM := Lib.hid (may_any _ x (Nat.le_refl _) hw)
 clear htab
 have hba := below_alloc (Below.refl w.heap.size w) (Obj.cells #[.int .i64 x.f0, .string x.f1, .int .i64 x.f2, .int .i64 x.f3, .slice A x.f4.length c] 24)
 have h1 := blk_new w (Obj.cells #[.int .i64 x.f0, .string x.f1, .int .i64 x.f2, .int .i64 x.f3, .slice A x.f4.length c] 24)
 go_enter Tryz.func6, Tryz.ntmps6
 go_upto_region 1 with (fail)
 generalize hwq : w.alloc (Obj.cells #[.int .i64 x.f0, .string x.f1, .int .i64 x.f2, .int .i64 x.f3, .slice A x.f4.length c] 24) = wq at hba h1 ⊢
 clear hwq
 have HB := Lib.hid hba; have Ct := Lib.hid (Kd.C_below hC hba)
 have t0 := blk_cell h1 0; have t1 := blk_cell h1 1; have t2 := blk_cell h1 2; have t3 := blk_cell h1 3; have t4 := blk_cell h1 4
 simp only [List.getElem?_toArray, List.getElem?_cons_zero, List.getElem?_cons_succ] at t0 t1 t2 t3 t4
 clear hba h1 hC
 rcases Classical.em (x.f0 = 8) with q | q
 ·have b8 : (x.f0 != 8) = false := bne_eq_false_iff_eq.2 q
  have HR : Hid (whole x = false) := Lib.hid (by unfold whole; rw [decide_eq_false (fun h => h q)]; rfl)
  clear q
  go_wp2_with fail
  go_ret
  exact ⟨by rw [HR.out]; rfl, HB.out⟩
 ·have b8 : (x.f0 != 8) = true := bne_iff_ne.2 q
  have HR : Hid (whole x = may x) := Lib.hid (by unfold whole; rw [decide_eq_true q]; rfl)
  clear q
  go_wp2_with fail
  refine (HM.out _ _ _ Ct.out hl (HT.out.on HB.out).here).mono ?_
  rintro e w5 ⟨rfl, hb⟩
  have HB5 := Lib.hid (below_step HB.out hb)
  clear hb
  go_wp2_with fail
  go_ret
  exact ⟨by rw [HR.out]; rfl, HB5.out⟩
end TreeMay
end Go.Proofs.YthdkjfhpbigdpaaGreatDoor.Pure

namespace Go.Proofs.YthdkjfhpbigdpaaGreatDoor.Pure
open Go Go.RowKit Go.Lib Go.Proofs Go.Proofs.YthdkjfhpbigdpaaGreatDoor.Q Go.Proofs.YthdkjfhpbigdpaaGreatDoorW.PrintWords Go.Proofs.YthdkjfhpbigdpaaGreatDoorW.PrintLast Go.Proofs.YthdkjfhpbigdpaaGreatDoorW.PrintMore
open HTree
namespace TreeFix
set_option linter.unusedVariables false
set_option linter.unusedSimpArgs false
theorem C1 {W : World} {x : T} {cs : List Value} (h : k24.K W x cs) : Kd.C k24 (W.alloc (.cells cs.toArray 24)) (some ⟨W.heap.size, 0, none⟩) 1 [x] := by
 have hb := below_alloc (Below.refl W.heap.size W) (.cells cs.toArray 24)
 have hn := blk_new W (.cells cs.toArray 24)
 refine ⟨rfl, by decide, fun _ => ⟨_, rfl, fun j p hj => ?_⟩⟩
 match j, hj with
 | 0, hj =>
  obtain rfl : x = p := by simpa using hj
  refine ⟨cs, k24.K_len h, k24.K_below hb h, fun i u hi => ?_⟩
  have := blk_cell hn i
  have e : (⟨W.heap.size, 0, none⟩ : Addr).add (0 * k24.sz + i) = ⟨W.heap.size, i, none⟩ := by rw [Nat.zero_mul, Nat.zero_add]; simp only [Addr.add]; split <;> simp_all
  rw [e, this]; simpa using hi
theorem C2 {W : World} {x y : T} {cs ds : List Value} (h : k24.K W x cs) (h2 : k24.K W y ds) : Kd.C k24 (W.alloc (.cells (cs ++ ds).toArray 24)) (some ⟨W.heap.size, 0, none⟩) 2 [x, y] := by
 have hb := below_alloc (Below.refl W.heap.size W) (.cells (cs ++ ds).toArray 24)
 have hn := blk_new W (.cells (cs ++ ds).toArray 24)
 have hl : cs.length = 5 := k24.K_len h
 refine ⟨rfl, by decide, fun _ => ⟨_, rfl, fun j p hj => ?_⟩⟩
 match j, hj with
 | 0, hj =>
  obtain rfl : x = p := by simpa using hj
  refine ⟨cs, k24.K_len h, k24.K_below hb h, fun i u hi => ?_⟩
  have := blk_cell hn i
  have e : (⟨W.heap.size, 0, none⟩ : Addr).add (0 * k24.sz + i) = ⟨W.heap.size, i, none⟩ := by rw [Nat.zero_mul, Nat.zero_add]; simp only [Addr.add]; split <;> simp_all
  have hlt := (List.getElem?_eq_some_iff.1 hi).1
  rw [e, this]; simpa [List.getElem?_append_left hlt] using hi
 | 1, hj =>
  obtain rfl : y = p := by simpa using hj
  refine ⟨ds, k24.K_len h2, k24.K_below hb h2, fun i u hi => ?_⟩
  have := blk_cell hn (5 + i)
  have e : (⟨W.heap.size, 0, none⟩ : Addr).add (1 * k24.sz + i) = ⟨W.heap.size, 5 + i, none⟩ := by rw [show 1 * k24.sz + i = 5 + i from rfl]; simp only [Addr.add]; split <;> simp_all
  rw [e, this]; simp [List.getElem?_append_right, hl, hi]
theorem C0 (W : World) : Kd.C k24 W none 0 [] := ⟨rfl, by decide, fun h => absurd h (by decide)⟩
theorem keep16 {p0 : Addr} {p1 : Addr} {p2 : Addr} {p3 : Addr} {p4 : Addr} {p5 : Addr} {p6 : Addr} {p7 : Addr} {p8 : Addr} {p9 : Addr} {p10 : Addr} {p11 : Addr} {p12 : Addr} {p13 : Addr} {p14 : Addr} {p15 : Addr} {v0 : Value} {v1 : Value} {v2 : Value} {v3 : Value} {v4 : Value} {v5 : Value} {v6 : Value} {v7 : Value} {v8 : Value} {v9 : Value} {v10 : Value} {v11 : Value} {v12 : Value} {v13 : Value} {v14 : Value} {v15 : Value} {wq w1 w2 : World}
  (h : w1.cell? p0 = some v0 ∧ w1.cell? p1 = some v1 ∧ w1.cell? p2 = some v2 ∧ w1.cell? p3 = some v3 ∧ w1.cell? p4 = some v4 ∧ w1.cell? p5 = some v5 ∧ w1.cell? p6 = some v6 ∧ w1.cell? p7 = some v7 ∧ w1.cell? p8 = some v8 ∧ w1.cell? p9 = some v9 ∧ w1.cell? p10 = some v10 ∧ w1.cell? p11 = some v11 ∧ w1.cell? p12 = some v12 ∧ w1.cell? p13 = some v13 ∧ w1.cell? p14 = some v14 ∧ w1.cell? p15 = some v15 ∧ Below wq.heap.size wq w1) (hb : Below w1.heap.size w1 w2) :
  w2.cell? p0 = some v0 ∧ w2.cell? p1 = some v1 ∧ w2.cell? p2 = some v2 ∧ w2.cell? p3 = some v3 ∧ w2.cell? p4 = some v4 ∧ w2.cell? p5 = some v5 ∧ w2.cell? p6 = some v6 ∧ w2.cell? p7 = some v7 ∧ w2.cell? p8 = some v8 ∧ w2.cell? p9 = some v9 ∧ w2.cell? p10 = some v10 ∧ w2.cell? p11 = some v11 ∧ w2.cell? p12 = some v12 ∧ w2.cell? p13 = some v13 ∧ w2.cell? p14 = some v14 ∧ w2.cell? p15 = some v15 ∧ Below wq.heap.size wq w2 := by
 obtain ⟨h0, h1, h2, h3, h4, h5, h6, h7, h8, h9, h10, h11, h12, h13, h14, h15, h16⟩ := h
 exact ⟨(hb.cell (World.block_lt_of_cell? _ _ h0)).trans h0, (hb.cell (World.block_lt_of_cell? _ _ h1)).trans h1, (hb.cell (World.block_lt_of_cell? _ _ h2)).trans h2, (hb.cell (World.block_lt_of_cell? _ _ h3)).trans h3, (hb.cell (World.block_lt_of_cell? _ _ h4)).trans h4, (hb.cell (World.block_lt_of_cell? _ _ h5)).trans h5, (hb.cell (World.block_lt_of_cell? _ _ h6)).trans h6, (hb.cell (World.block_lt_of_cell? _ _ h7)).trans h7, (hb.cell (World.block_lt_of_cell? _ _ h8)).trans h8, (hb.cell (World.block_lt_of_cell? _ _ h9)).trans h9, (hb.cell (World.block_lt_of_cell? _ _ h10)).trans h10, (hb.cell (World.block_lt_of_cell? _ _ h11)).trans h11, (hb.cell (World.block_lt_of_cell? _ _ h12)).trans h12, (hb.cell (World.block_lt_of_cell? _ _ h13)).trans h13, (hb.cell (World.block_lt_of_cell? _ _ h14)).trans h14, (hb.cell (World.block_lt_of_cell? _ _ h15)).trans h15, below_step h16 hb⟩
theorem keep10 {p0 : Addr} {p1 : Addr} {p2 : Addr} {p3 : Addr} {p4 : Addr} {p5 : Addr} {p6 : Addr} {p7 : Addr} {p8 : Addr} {p9 : Addr} {v0 : Value} {v1 : Value} {v2 : Value} {v3 : Value} {v4 : Value} {v5 : Value} {v6 : Value} {v7 : Value} {v8 : Value} {v9 : Value} {wq w1 w2 : World}
  (h : w1.cell? p0 = some v0 ∧ w1.cell? p1 = some v1 ∧ w1.cell? p2 = some v2 ∧ w1.cell? p3 = some v3 ∧ w1.cell? p4 = some v4 ∧ w1.cell? p5 = some v5 ∧ w1.cell? p6 = some v6 ∧ w1.cell? p7 = some v7 ∧ w1.cell? p8 = some v8 ∧ w1.cell? p9 = some v9 ∧ Below wq.heap.size wq w1) (hb : Below w1.heap.size w1 w2) :
  w2.cell? p0 = some v0 ∧ w2.cell? p1 = some v1 ∧ w2.cell? p2 = some v2 ∧ w2.cell? p3 = some v3 ∧ w2.cell? p4 = some v4 ∧ w2.cell? p5 = some v5 ∧ w2.cell? p6 = some v6 ∧ w2.cell? p7 = some v7 ∧ w2.cell? p8 = some v8 ∧ w2.cell? p9 = some v9 ∧ Below wq.heap.size wq w2 := by
 obtain ⟨h0, h1, h2, h3, h4, h5, h6, h7, h8, h9, h10⟩ := h
 exact ⟨(hb.cell (World.block_lt_of_cell? _ _ h0)).trans h0, (hb.cell (World.block_lt_of_cell? _ _ h1)).trans h1, (hb.cell (World.block_lt_of_cell? _ _ h2)).trans h2, (hb.cell (World.block_lt_of_cell? _ _ h3)).trans h3, (hb.cell (World.block_lt_of_cell? _ _ h4)).trans h4, (hb.cell (World.block_lt_of_cell? _ _ h5)).trans h5, (hb.cell (World.block_lt_of_cell? _ _ h6)).trans h6, (hb.cell (World.block_lt_of_cell? _ _ h7)).trans h7, (hb.cell (World.block_lt_of_cell? _ _ h8)).trans h8, (hb.cell (World.block_lt_of_cell? _ _ h9)).trans h9, below_step h10 hb⟩
end TreeFix
end Go.Proofs.YthdkjfhpbigdpaaGreatDoor.Pure

namespace Go.Proofs.YthdkjfhpbigdpaaGreatDoor.Pure
open Go Go.RowKit Go.Lib Go.Proofs Go.Proofs.YthdkjfhpbigdpaaGreatDoor.Q Go.Proofs.YthdkjfhpbigdpaaGreatDoorW.PrintWords Go.Proofs.YthdkjfhpbigdpaaGreatDoorW.PrintLast Go.Proofs.YthdkjfhpbigdpaaGreatDoorW.PrintMore
open HTree
namespace TreeSm
set_option linter.unusedVariables false
set_option linter.unusedSimpArgs false
theorem sames_len : ∀ l l' : List T, ¬ l.length = l'.length → sames l l' = false
 | [], [], h => absurd rfl h
 | [], _ :: _, _ => rfl
 | _ :: _, [], _ => rfl
 | x :: l, y :: l', h => by
  simp only [List.length_cons] at h
  simp only [sames, sames_len l l' (by omega), Bool.and_false]
def SameC (x : T) : Prop := ∀ (y : T) (w : World) (A : Option Addr) (c : Nat) (A2 : Option Addr) (c2 : Nat), Kd.C k24 w A x.f4.length x.f4 → x.f4.length ≤ c → Kd.C k24 w A2 y.f4.length y.f4 → y.f4.length ≤ c2 →
 Calls Tryz.prog 17 #[.agg #[.int .i64 x.f0, .string x.f1, .int .i64 x.f2, .int .i64 x.f3, .slice A x.f4.length c], .agg #[.int .i64 y.f0, .string y.f1, .int .i64 y.f2, .int .i64 y.f3, .slice A2 y.f4.length c2]] w fun e w' => e = .returned (.bool (same x y)) ∧ Below w.heap.size w w'
set_option maxRecDepth 100000 in
theorem equal_any (l l' : List T) (hl : l.length ≤ 1000000000) (H : ∀ x ∈ l, SameC x) (w : World) (A : Option Addr) (c : Nat) (A2 : Option Addr) (c2 : Nat) (hc : Kd.C k24 w A l.length l) (hlc : l.length ≤ c) (hc2 : Kd.C k24 w A2 l'.length l') (hlc2 : l'.length ≤ c2) :
  Calls Tryz.prog 20 #[.slice A l.length c, .slice A2 l'.length c2, .func (.func 17) #[] #[]] w fun e w' => e = .returned (.bool (sames l l')) ∧ Below w.heap.size w w' := by
 have HC := Lib.hid hc; have HC2 := Lib.hid hc2; have HH := Lib.hid H
 clear hc hc2 H
 by_cases hn : l.length = l'.length
 ·have b1 : ((l.length : Int) != (l'.length : Int)) = false := bne_eq_false_iff_eq.2 (by omega)
  have HN := Lib.hid hn
  have hl' : l'.length ≤ 1000000000 := by omega
  clear hn
  go_enter Tryz.func20, Tryz.ntmps20
  go_wp2_with fail
  go_loopw [17] (fun i wr => ∃ k : Nat, k ≤ l.length ∧ i = .int .i64 k ∧ Hid (sames l l' = sames (l.drop k) (l'.drop k)) ∧ Hid (Below w.heap.size w wr)) (fun i _ => l.length - (intOf i).toNat)
  case atStart => exact ⟨0, Nat.zero_le _, rfl, Lib.hid rfl, Lib.hid (Below.refl _ _)⟩
  case round =>
   obtain ⟨k, hk, rfl, HP, HB⟩ := hrel
   by_cases hlt : k < l.length
   ·have hlt' : k < l'.length := by have := HN.out; omega
    obtain ⟨ad, A3, c3, rfl, x0, x1, x2, x3, x4, hl3, hc3⟩ := at_T24 (Kd.C_below HC.out HB.out) (k : Int) (by omega) (by omega)
    simp only [Int.toNat_natCast] at x0 x1 x2 x3 x4
    have hrk : rd_T24 l (k : Int) = l[k] := by
     unfold rd_T24
     rw [Int.toNat_natCast, List.getD_eq_getElem?_getD, List.getElem?_eq_getElem hlt]; rfl
    rw [hrk] at x0 x1 x2 x3 x4 hl3 hc3
    have hp := HP.out
    rw [List.drop_eq_getElem_cons hlt, List.drop_eq_getElem_cons hlt'] at hp
    simp only [sames] at hp
    have hy := HH.out l[k] (List.getElem_mem hlt)
    generalize l[k] = y at *
    have HY := Lib.hid hy; have HC3 := Lib.hid hc3; have HP1 := Lib.hid hp
    clear hrk hy hc3 hp HP
    go_upto_region 6 with (fail)
    have hb0 := blk_new wr (Obj.cells #[.int .i64 y.f0, .string y.f1, .int .i64 y.f2, .int .i64 y.f3, .slice A3 y.f4.length c3] 24)
    have hba := below_alloc (Below.refl wr.heap.size wr) (Obj.cells #[.int .i64 y.f0, .string y.f1, .int .i64 y.f2, .int .i64 y.f3, .slice A3 y.f4.length c3] 24)
    have hlt1 : wr.heap.size < (wr.alloc (Obj.cells #[.int .i64 y.f0, .string y.f1, .int .i64 y.f2, .int .i64 y.f3, .slice A3 y.f4.length c3] 24)).heap.size := blk_lt hb0
    generalize hwq : wr.alloc (Obj.cells #[.int .i64 y.f0, .string y.f1, .int .i64 y.f2, .int .i64 y.f3, .slice A3 y.f4.length c3] 24) = wq at hb0 hba hlt1 ⊢
    clear hwq
    have HB0 := Lib.hid hb0; have HBQ := Lib.hid (below_step HB.out hba); have HC3Q := Lib.hid (Kd.C_below HC3.out hba)
    clear hb0 hba x0 x1 x2 x3 x4
    obtain ⟨ad2, A4, c4, rfl, v0, v1, v2, v3, v4, hl4, hc4⟩ := at_T24 (Kd.C_below HC2.out HBQ.out) (k : Int) (by omega) (by omega)
    simp only [Int.toNat_natCast] at v0 v1 v2 v3 v4
    have hrk : rd_T24 l' (k : Int) = l'[k] := by
     unfold rd_T24
     rw [Int.toNat_natCast, List.getD_eq_getElem?_getD, List.getElem?_eq_getElem hlt']; rfl
    rw [hrk] at v0 v1 v2 v3 v4 hl4 hc4
    generalize l'[k] = z at *
    have HC4 := Lib.hid hc4
    clear hrk hc4
    have j1 : (k : Int) < (l'.length : Int) := by omega
    go_upto_region 7 with (fail)
    have hb0 := blk_new wq (Obj.cells #[.int .i64 z.f0, .string z.f1, .int .i64 z.f2, .int .i64 z.f3, .slice A4 z.f4.length c4] 24)
    have hba := below_alloc (Below.refl wq.heap.size wq) (Obj.cells #[.int .i64 z.f0, .string z.f1, .int .i64 z.f2, .int .i64 z.f3, .slice A4 z.f4.length c4] 24)
    generalize hwq : wq.alloc (Obj.cells #[.int .i64 z.f0, .string z.f1, .int .i64 z.f2, .int .i64 z.f3, .slice A4 z.f4.length c4] 24) = ws at hb0 hba ⊢
    clear hwq
    have h1 := blk_below HB0.out hba
    have u0 := blk_cell h1 0; have u1 := blk_cell h1 1; have u2 := blk_cell h1 2; have u3 := blk_cell h1 3; have u4 := blk_cell h1 4
    have s0 := blk_cell hb0 0; have s1 := blk_cell hb0 1; have s2 := blk_cell hb0 2; have s3 := blk_cell hb0 3; have s4 := blk_cell hb0 4
    simp only [List.getElem?_toArray, List.getElem?_cons_zero, List.getElem?_cons_succ] at u0 u1 u2 u3 u4 s0 s1 s2 s3 s4
    have hcall := HY.out z ws A3 c3 A4 c4 (Kd.C_below HC3Q.out hba) hl3 (Kd.C_below HC4.out hba) hl4
    have HCALL := Lib.hid hcall; have HBS := Lib.hid (below_step HBQ.out hba)
    clear hb0 hba h1 hcall v0 v1 v2 v3 v4
    go_wp2_with fail
    refine HCALL.out.mono ?_
    rintro e w5 ⟨rfl, hb⟩
    have HB5 := Lib.hid (below_step HBS.out hb)
    clear hb HCALL
    cases hs : same y z with
    | true =>
     have HS := Lib.hid hs
     clear hs
     go_wp2_with fail
     exact ⟨⟨k + 1, by omega, by first|rfl | go_num, Lib.hid (by rw [HP1.out, HS.out, Bool.true_and]), HB5⟩, by simp [intOf]; omega⟩
    | false =>
     have HF : Hid (sames l l' = false) := Lib.hid (by rw [HP1.out, hs, Bool.false_and])
     clear hs
     go_wp2_with fail
     go_ret
     exact ⟨congrArg (fun t => Ending.returned (Value.bool t)) HF.out.symm, HB5.out⟩
   ·have hkl : k = l.length := by omega
    have HF : Hid (sames l l' = true) := Lib.hid (by rw [HP.out, hkl, List.drop_length, HN.out, List.drop_length]; rfl)
    subst hkl
    go_wp2_with fail
    go_ret
    exact ⟨congrArg (fun t => Ending.returned (Value.bool t)) HF.out.symm, HB.out⟩
 ·have b1 : ((l.length : Int) != (l'.length : Int)) = true := bne_iff_ne.2 (by omega)
  have HF : Hid (sames l l' = false) := Lib.hid (sames_len l l' hn)
  clear hn
  go_enter Tryz.func20, Tryz.ntmps20
  go_wp2_with fail
  go_ret
  exact ⟨congrArg (fun t => Ending.returned (Value.bool t)) HF.out.symm, Below.refl _ _⟩
set_option maxRecDepth 100000 in
theorem same_step (x : T) (hw : x.f4.length ≤ 1000000000) (H : ∀ y ∈ x.f4, SameC y) : SameC x := by
 intro y w A c A2 c2 hc hlc hc2 hlc2
 have HC := Lib.hid hc; have HC2 := Lib.hid hc2; have HH := Lib.hid H
 clear hc hc2 H
 go_enter Tryz.func17, Tryz.ntmps17
 go_upto_region 1 with (fail)
 have h1 := blk_alloc (blk_new w (Obj.cells #[.int .i64 x.f0, .string x.f1, .int .i64 x.f2, .int .i64 x.f3, .slice A x.f4.length c] 24)) (Obj.cells #[.int .i64 y.f0, .string y.f1, .int .i64 y.f2, .int .i64 y.f3, .slice A2 y.f4.length c2] 24)
 have h2 := blk_new (w.alloc (Obj.cells #[.int .i64 x.f0, .string x.f1, .int .i64 x.f2, .int .i64 x.f3, .slice A x.f4.length c] 24)) (Obj.cells #[.int .i64 y.f0, .string y.f1, .int .i64 y.f2, .int .i64 y.f3, .slice A2 y.f4.length c2] 24)
 rw [World.size_alloc] at h2
 have hba := below_alloc (below_alloc (Below.refl w.heap.size w) (Obj.cells #[.int .i64 x.f0, .string x.f1, .int .i64 x.f2, .int .i64 x.f3, .slice A x.f4.length c] 24)) (Obj.cells #[.int .i64 y.f0, .string y.f1, .int .i64 y.f2, .int .i64 y.f3, .slice A2 y.f4.length c2] 24)
 generalize hwq : (w.alloc (Obj.cells #[.int .i64 x.f0, .string x.f1, .int .i64 x.f2, .int .i64 x.f3, .slice A x.f4.length c] 24)).alloc (Obj.cells #[.int .i64 y.f0, .string y.f1, .int .i64 y.f2, .int .i64 y.f3, .slice A2 y.f4.length c2] 24) = wq at h1 h2 hba ⊢
 clear hwq
 have u0 := blk_cell h1 0; have u1 := blk_cell h1 1; have u2 := blk_cell h1 2; have u3 := blk_cell h1 3; have u4 := blk_cell h1 4
 have s0 := blk_cell h2 0; have s1 := blk_cell h2 1; have s2 := blk_cell h2 2; have s3 := blk_cell h2 3; have s4 := blk_cell h2 4
 simp only [List.getElem?_toArray, List.getElem?_cons_zero, List.getElem?_cons_succ] at u0 u1 u2 u3 u4 s0 s1 s2 s3 s4
 have HB := Lib.hid hba
 have HE := Lib.hid (equal_any x.f4 y.f4 hw HH.out wq A c A2 c2 (Kd.C_below HC.out hba) hlc (Kd.C_below HC2.out hba) hlc2)
 have hsm : same x y = (decide (x.f0 = y.f0) && decide (x.f1.data.toList = y.f1.data.toList) && decide (x.f2 = y.f2) && sames x.f4 y.f4) := by cases x; cases y; rfl
 have HS := Lib.hid hsm
 clear h1 h2 hba hsm
 rcases Classical.em (x.f0 = y.f0) with q1 | q1
 ·have b1 : (x.f0 == y.f0) = true := beq_iff_eq.2 q1
  have Q1 := Lib.hid (decide_eq_true q1)
  clear q1
  rcases Classical.em (x.f1.data.toList = y.f1.data.toList) with q2 | q2
  ·have b2 : (x.f1.toList == y.f1.toList) = true := by rw [Lib.toList_data, Lib.toList_data]; exact beq_iff_eq.2 q2
   have Q2 := Lib.hid (decide_eq_true q2)
   clear q2
   rcases Classical.em (x.f2 = y.f2) with q3 | q3
   ·have b3 : (x.f2 == y.f2) = true := beq_iff_eq.2 q3
    have Q3 := Lib.hid (decide_eq_true q3)
    clear q3
    go_wp2_with fail
    refine HE.out.mono ?_
    rintro e w5 ⟨rfl, hb⟩
    have HB5 := Lib.hid (below_step HB.out hb)
    clear hb HE
    go_wp2_with fail
    go_ret
    exact ⟨congrArg (fun t => Ending.returned (Value.bool t)) (by rw [HS.out, Q1.out, Q2.out, Q3.out]; rfl), HB5.out⟩
   ·have b3 : (x.f2 == y.f2) = false := beq_eq_false_iff_ne.2 q3
    have Q3 := Lib.hid (decide_eq_false q3)
    clear q3
    go_wp2_with fail
    go_ret
    exact ⟨congrArg (fun t => Ending.returned (Value.bool t)) (show false = same x y by rw [HS.out, Q3.out, Bool.and_false, Bool.false_and]), HB.out⟩
  ·have b2 : (x.f1.toList == y.f1.toList) = false := by rw [Lib.toList_data, Lib.toList_data]; exact beq_eq_false_iff_ne.2 q2
   have Q2 := Lib.hid (decide_eq_false q2)
   clear q2
   go_wp2_with fail
   go_ret
   exact ⟨congrArg (fun t => Ending.returned (Value.bool t)) (show false = same x y by rw [HS.out, Q2.out, Bool.and_false, Bool.false_and, Bool.false_and]), HB.out⟩
 ·have b1 : (x.f0 == y.f0) = false := beq_eq_false_iff_ne.2 q1
  have Q1 := Lib.hid (decide_eq_false q1)
  clear q1
  go_wp2_with fail
  go_ret
  exact ⟨congrArg (fun t => Ending.returned (Value.bool t)) (show false = same x y by rw [HS.out, Q1.out, Bool.false_and, Bool.false_and, Bool.false_and]), HB.out⟩
theorem same_any : ∀ (n : Nat) (x : T), height x ≤ n → wt x ≤ 1000000000 → SameC x
 | 0, x, hn, _ => by cases x; simp only [height] at hn; omega
 | n + 1, x, hn, hw => by
  have hh : height x = heights x.f4 + 1 := by cases x; rfl
  have hwx : wts x.f4 ≤ wt x := by cases x; simp only [wt]; omega
  have := len_wts x.f4
  exact same_step x (by omega) fun y hy => same_any n y (by have := height_get hy; omega) (by have := wt_get hy; omega)
end TreeSm
end Go.Proofs.YthdkjfhpbigdpaaGreatDoor.Pure

namespace Go.Proofs.YthdkjfhpbigdpaaGreatDoor.Pure
open Go Go.RowKit Go.Lib Go.Proofs Go.Proofs.YthdkjfhpbigdpaaGreatDoor.Q Go.Proofs.YthdkjfhpbigdpaaGreatDoorW.PrintWords Go.Proofs.YthdkjfhpbigdpaaGreatDoorW.PrintLast Go.Proofs.YthdkjfhpbigdpaaGreatDoorW.PrintMore
open HTree
namespace TreeFix
set_option linter.unusedVariables false
set_option linter.unusedSimpArgs false
def eL : T := ⟨2, ⟨#[120]⟩, 0, 1, [⟨1, ⟨#[120]⟩, 0, 3, []⟩]⟩
def eN : T := ⟨9, ⟨#[]⟩, 7, 6, []⟩
def eS : T := ⟨3, ⟨#[]⟩, 0, 0, [eL, eN]⟩
def eB : T := bare eS
def e0 : T := ⟨0, ⟨#[]⟩, 0, 0, []⟩
def eV : T := ⟨1, ⟨#[108, 101, 116]⟩, 0, 0, []⟩
def eC : T := ⟨6, ⟨#[65]⟩, 0, 0, []⟩
def eA : T := ⟨8, ⟨#[65]⟩, 0, 0, [eN]⟩
def eK : T := ⟨7, ⟨#[]⟩, 0, 0, [eS, eA]⟩
theorem wS : whole eS = true := by decide +kernel
theorem w0 : whole e0 = false := by decide +kernel
theorem wV : whole eV = false := by decide +kernel
theorem wC : whole eC = true := by decide +kernel
theorem wA : whole eA = false := by decide +kernel
theorem wK : whole eK = true := by decide +kernel
theorem sSB : same eS eB = true := by decide +kernel
theorem sSL : same eS eL = false := by decide +kernel
set_option maxRecDepth 100000 in
set_option maxHeartbeats 16000000 in
theorem fixed_any (w : World) (htab : Lib.TabIs Tryz.prog w "strings.asciiSpace" .u8 Lib.asciiSpaceTab) :
  Calls Tryz.prog 5 #[] w fun e w' => e = .returned (.bool true) ∧ Below w.heap.size w w' := by
 have HT := Lib.hid (tabBelow_of_tabIs htab)
 clear htab
 have hu24 := Tryz.underlying24
 go_enter Tryz.func5, Tryz.ntmps5
 go_wp2_with fail
 refine (gossamerlaw02_same.calls _ _ _ _ _ _ rfl).mono ?_
 rintro e w1 ⟨v1, rfl, r1, hb1⟩
 obtain ⟨A1, c1, rfl, hc1, cc1⟩ := Kd.N_reads r1
 have HB1 := Lib.hid hb1; have C1_ := Lib.hid cc1
 clear r1 hb1 cc1
 change 2 ≤ c1 at hc1
 go_wp2_with fail
 have tb := blk_new w1 (Obj.cells #[.int .i64 3, .string ⟨#[]⟩, .int .i64 0, .int .i64 0, .slice A1 2 c1] 24)
 have hb := below_alloc (Below.refl w1.heap.size w1) (Obj.cells #[.int .i64 3, .string ⟨#[]⟩, .int .i64 0, .int .i64 0, .slice A1 2 c1] 24)
 generalize hw2 : w1.alloc (Obj.cells #[.int .i64 3, .string ⟨#[]⟩, .int .i64 0, .int .i64 0, .slice A1 2 c1] 24) = w2 at tb hb ⊢
 clear hw2
 have TB := Lib.hid tb; have CT := Lib.hid (Kd.C_below C1_.out hb); have HB := Lib.hid (below_step HB1.out hb)
 clear tb hb C1_ HB1
 refine (tree_Bare.calls 20 3 ⟨#[]⟩ 0 0 A1 c1 eS.f4 3 ⟨#[]⟩ 0 0 eB.f4 _ CT.out hc1 (by kernel_rfl)).mono ?_
 rintro e w3 ⟨v2, rfl, r2, hb⟩
 obtain ⟨A2, c2, rfl, hc2, cc2⟩ := Kd.R_reads r2
 change 2 ≤ c2 at hc2
 rw [show eB.f4.length = 2 from rfl]
 have n0_ := Lib.hid (below_step HB.out hb); have n1_ := Lib.hid (Kd.C_below CT.out hb); have n2_ := Lib.hid (blk_below TB.out hb)
 clear HB CT TB hb r2
 have HB := n0_; have CT := n1_; have TB := n2_
 clear n0_ n1_ n2_
 go_upto_region 3 with (fail)
 simp only [List.append_eq, List.cons_append, List.nil_append]
 have ub := blk_new w3 (Obj.cells #[.int .i64 3, .string ⟨#[]⟩, .int .i64 0, .int .i64 0, .slice A2 2 c2] 24)
 have hb := below_alloc (Below.refl w3.heap.size w3) (Obj.cells #[.int .i64 3, .string ⟨#[]⟩, .int .i64 0, .int .i64 0, .slice A2 2 c2] 24)
 generalize hw2 : w3.alloc (Obj.cells #[.int .i64 3, .string ⟨#[]⟩, .int .i64 0, .int .i64 0, .slice A2 2 c2] 24) = wz at ub hb ⊢
 clear hw2
 have n0_ := Lib.hid (below_step HB.out hb); have n1_ := Lib.hid (Kd.C_below CT.out hb); have n2_ := Lib.hid (blk_below TB.out hb)
 have CU := Lib.hid (Kd.C_below cc2 hb); have UB := Lib.hid ub
 clear HB CT TB hb ub cc2
 have HB := n0_; have CT := n1_; have TB := n2_
 clear n0_ n1_ n2_
 obtain ⟨ad1, A5, c5, rfl, i0, i1, i2, i3, i4, hl5, hc5⟩ := at_T24 CT.out (0 : Int) (by omega) (by decide)
 have had : ad1.add ((0 : Int).toNat * 5) = ad1 := by simp [Addr.add]
 rw [had] at i0 i1 i2 i3 i4
 change Kd.C k24 wz A5 1 eL.f4 at hc5
 have C5 := Lib.hid hc5
 change 1 ≤ c5 at hl5
 clear had hc5
 change wz.cell? ad1 = some (.int .i64 2) at i0
 change _ = some (Value.string ⟨#[120]⟩) at i1
 change _ = some (Value.int .i64 0) at i2
 change _ = some (Value.int .i64 1) at i3
 change _ = some (Value.slice A5 1 c5) at i4
 obtain ⟨ad2, A6, c6, rfl, j0, j1, j2, j3, j4, hl6, hc6⟩ := at_T24 CU.out (0 : Int) (by omega) (by decide)
 have had : ad2.add ((0 : Int).toNat * 5) = ad2 := by simp [Addr.add]
 rw [had] at j3
 change _ = some (Value.int .i64 0) at j3
 clear had hc6 hl6 j0 j1 j2 j4
 have t0 := blk_cell TB.out 0; have t1 := blk_cell TB.out 1; have t2 := blk_cell TB.out 2; have t3 := blk_cell TB.out 3; have t4 := blk_cell TB.out 4
 have u0 := blk_cell UB.out 0; have u1 := blk_cell UB.out 1; have u2 := blk_cell UB.out 2; have u3 := blk_cell UB.out 3; have u4 := blk_cell UB.out 4
 simp only [List.getElem?_toArray, List.getElem?_cons_zero, List.getElem?_cons_succ] at t0 t1 t2 t3 t4 u0 u1 u2 u3 u4
 have k3 : ¬ c1 = 1 := by omega
 have k1 : (1 : Int) ≤ (c1 : Int) := by omega
 have k2 : (2 : Int) ≤ (c1 : Int) := by omega
 have hdr := Kd.C_drop CT.out (m := 1) (c := c1) (by decide) hc1
 have had4 : (some ad1).map (fun a => a.add (1 * k24.sz)) = some (⟨ad1.block, ad1.off + 5, none⟩ : Addr) := by rw [show k24.sz = 5 from rfl]; simp [Addr.add]
 rw [if_neg (by omega : ¬ c1 = 1), had4] at hdr
 change Kd.C k24 _ _ 1 [eN] at hdr
 have CN := Lib.hid hdr
 clear hdr had4
 refine wp_region_held_drew (S := (fun w' => w'.cell? ⟨w1.heap.size, 0, none⟩ = some (.int .i64 3) ∧ w'.cell? ⟨w1.heap.size, 1, none⟩ = some (.string ⟨#[]⟩) ∧ w'.cell? ⟨w1.heap.size, 2, none⟩ = some (.int .i64 0) ∧ w'.cell? ⟨w1.heap.size, 3, none⟩ = some (.int .i64 0) ∧ w'.cell? ⟨w1.heap.size, 4, none⟩ = some (.slice (some ad1) 2 c1) ∧ w'.cell? ⟨w3.heap.size, 0, none⟩ = some (.int .i64 3) ∧ w'.cell? ⟨w3.heap.size, 1, none⟩ = some (.string ⟨#[]⟩) ∧ w'.cell? ⟨w3.heap.size, 2, none⟩ = some (.int .i64 0) ∧ w'.cell? ⟨w3.heap.size, 3, none⟩ = some (.int .i64 0) ∧ w'.cell? ⟨w3.heap.size, 4, none⟩ = some (.slice (some ad2) 2 c2) ∧ w'.cell? ad1 = some (.int .i64 2) ∧ w'.cell? ⟨ad1.block, ad1.off + 1, none⟩ = some (.string ⟨#[120]⟩) ∧ w'.cell? ⟨ad1.block, ad1.off + 2, none⟩ = some (.int .i64 0) ∧ w'.cell? ⟨ad1.block, ad1.off + 3, none⟩ = some (.int .i64 1) ∧ w'.cell? ⟨ad1.block, ad1.off + 4, none⟩ = some (.slice A5 1 c5) ∧ w'.cell? ⟨ad2.block, ad2.off + 3, none⟩ = some (.int .i64 0) ∧ Below wz.heap.size wz w')) (by kernel_rfl) (by (try dsimp only); exact keep16 ⟨t0, t1, t2, t3, t4, u0, u1, u2, u3, u4, i0, i1, i2, i3, i4, j3, Below.refl _ _⟩ (below_drew1 (Below.refl _ _))) (fun hHeld => ?_)
 change wpAnyH _ _ _ _ _ 73 #[false, false, false, false, false, false, false, false, false, false, false, false, false, false, false, false, false, false, false, false, false, false, false, false, false, false, false, false, false, false, false, false, false, false, false, false, false, false, false, false, false, false, false, false, false, false, false, false, false, false, false, false, false, false, false, false, false, false, false, false, false, false, false, false, false, false, false, false, false, false, false, false, false] _ _
 refine wpAnyH_take (i := 0) (v := ?_) rfl (by kernel_rfl) (by kernel_rfl) (by kernel_rfl) (fun _ _ _ h => h) (Or.inl ⟨by kernel_rfl, ?_⟩) (by assumption) ?_
 rotate_left 1
 ·(intro w hSw; (try dsimp only at hSw); (try simp only [List.getElem_toArray, List.getElem_cons_succ, List.getElem_cons_zero]); go_simp; (try with_reducible rfl))
 (try simp only [Act.put, List.getElem_toArray, List.getElem_cons_succ, List.getElem_cons_zero, List.setIfInBounds_toArray, List.set_cons_zero, List.set_cons_succ])
 refine wpAnyH_ready (rs := [1]) (by kernel_rfl) (by simp) ?_
 refine AllReadyH.cons rfl (fun K hK => ?_) AllReadyH.nil
 (try simp only [List.getElem_toArray, List.getElem_cons_succ, List.getElem_cons_zero])
 go_simp
 refine (TreeMay.whole_any eS (by decide) _ _ _ (Kd.C_below CT.out hHeld.2.2.2.2.2.2.2.2.2.2.2.2.2.2.2.2) hc1 (HT.out.on (below_step HB.out hHeld.2.2.2.2.2.2.2.2.2.2.2.2.2.2.2.2)).here).mono ?_
 rintro e w9 ⟨rfl, hb⟩
 rw [wS]
 simp only []
 refine hK.out _ _ ?_ (fun hHeld => ?_)
 ·(try dsimp only); exact keep16 hHeld hb
 clear hK K
 (try simp only [Act.put, List.getElem_toArray, List.getElem_cons_succ, List.getElem_cons_zero, List.setIfInBounds_toArray, List.set_cons_zero, List.set_cons_succ])
 refine wpAnyH_take (i := 2) (v := ?_) rfl (by kernel_rfl) (by kernel_rfl) (by kernel_rfl) (fun _ _ _ h => h) (Or.inl ⟨by kernel_rfl, ?_⟩) (by assumption) ?_
 rotate_left 1
 ·(intro w hSw; (try dsimp only at hSw); (try simp only [List.getElem_toArray, List.getElem_cons_succ, List.getElem_cons_zero]); go_simp; (try with_reducible rfl))
 (try simp only [Act.put, List.getElem_toArray, List.getElem_cons_succ, List.getElem_cons_zero, List.setIfInBounds_toArray, List.set_cons_zero, List.set_cons_succ])
 refine wpAnyH_take (i := 3) (v := ?_) rfl (by kernel_rfl) (by kernel_rfl) (by kernel_rfl) (fun _ _ _ h => h) (Or.inl ⟨by kernel_rfl, ?_⟩) (by assumption) ?_
 rotate_left 1
 ·(intro w hSw; (try dsimp only at hSw); (try simp only [List.getElem_toArray, List.getElem_cons_succ, List.getElem_cons_zero]); go_simp; (try with_reducible rfl))
 (try simp only [Act.put, List.getElem_toArray, List.getElem_cons_succ, List.getElem_cons_zero, List.setIfInBounds_toArray, List.set_cons_zero, List.set_cons_succ])
 refine wpAnyH_ready (rs := [4]) (by kernel_rfl) (by simp) ?_
 refine AllReadyH.cons rfl (fun K hK => ?_) AllReadyH.nil
 (try simp only [List.getElem_toArray, List.getElem_cons_succ, List.getElem_cons_zero])
 go_simp
 refine (tree_Depth.calls 20 3 ⟨#[]⟩ 0 0 _ _ eS.f4 3 _ (Kd.C_below CT.out hHeld.2.2.2.2.2.2.2.2.2.2.2.2.2.2.2.2) hc1 (by kernel_rfl)).mono ?_
 rintro e w9 ⟨rfl, hb⟩
 simp only []
 refine hK.out _ _ ?_ (fun hHeld => ?_)
 ·(try dsimp only); exact keep16 hHeld hb
 clear hK K
 (try simp only [Act.put, List.getElem_toArray, List.getElem_cons_succ, List.getElem_cons_zero, List.setIfInBounds_toArray, List.set_cons_zero, List.set_cons_succ])
 refine wpAnyH_take (i := 5) (v := ?_) rfl (by kernel_rfl) (by kernel_rfl) (by kernel_rfl) (fun _ _ _ h => h) (Or.inl ⟨by kernel_rfl, ?_⟩) (by assumption) ?_
 rotate_left 1
 ·(intro w hSw; (try dsimp only at hSw); (try simp only [List.getElem_toArray, List.getElem_cons_succ, List.getElem_cons_zero]); go_simp; (try with_reducible rfl))
 (try simp only [Act.put, List.getElem_toArray, List.getElem_cons_succ, List.getElem_cons_zero, List.setIfInBounds_toArray, List.set_cons_zero, List.set_cons_succ])
 refine wpAnyH_take (i := 6) (v := ?_) rfl (by kernel_rfl) (by kernel_rfl) (by kernel_rfl) (fun _ _ _ h => h) (Or.inl ⟨by kernel_rfl, ?_⟩) (by assumption) ?_
 rotate_left 1
 ·(intro w hSw; (try dsimp only at hSw); (try simp only [List.getElem_toArray, List.getElem_cons_succ, List.getElem_cons_zero]); go_simp; (try with_reducible rfl))
 (try simp only [Act.put, List.getElem_toArray, List.getElem_cons_succ, List.getElem_cons_zero, List.setIfInBounds_toArray, List.set_cons_zero, List.set_cons_succ])
 refine wpAnyH_take (i := 7) (v := ?_) rfl (by kernel_rfl) (by kernel_rfl) (by kernel_rfl) (fun _ _ _ h => h) (Or.inl ⟨by kernel_rfl, ?_⟩) (by assumption) ?_
 rotate_left 1
 ·(intro w hSw; (try dsimp only at hSw); (try simp only [List.getElem_toArray, List.getElem_cons_succ, List.getElem_cons_zero]); go_simp; (try with_reducible rfl))
 (try simp only [Act.put, List.getElem_toArray, List.getElem_cons_succ, List.getElem_cons_zero, List.setIfInBounds_toArray, List.set_cons_zero, List.set_cons_succ])
 refine wpAnyH_take (i := 8) (v := ?_) rfl (by kernel_rfl) (by kernel_rfl) (by kernel_rfl) (fun _ _ _ h => h) (Or.inl ⟨by kernel_rfl, ?_⟩) (by assumption) ?_
 rotate_left 1
 ·(intro w hSw; (try dsimp only at hSw); (try simp only [List.getElem_toArray, List.getElem_cons_succ, List.getElem_cons_zero]); go_simp; (try with_reducible rfl))
 (try simp only [Act.put, List.getElem_toArray, List.getElem_cons_succ, List.getElem_cons_zero, List.setIfInBounds_toArray, List.set_cons_zero, List.set_cons_succ])
 refine wpAnyH_ready (rs := [9]) (by kernel_rfl) (by simp) ?_
 refine AllReadyH.cons rfl (fun K hK => ?_) AllReadyH.nil
 (try simp only [List.getElem_toArray, List.getElem_cons_succ, List.getElem_cons_zero])
 go_simp
 refine (tree_Size.calls 20 3 ⟨#[]⟩ 0 0 _ _ eS.f4 4 _ (Kd.C_below CT.out hHeld.2.2.2.2.2.2.2.2.2.2.2.2.2.2.2.2) hc1 (by kernel_rfl)).mono ?_
 rintro e w9 ⟨rfl, hb⟩
 simp only []
 refine hK.out _ _ ?_ (fun hHeld => ?_)
 ·(try dsimp only); exact keep16 hHeld hb
 clear hK K
 (try simp only [Act.put, List.getElem_toArray, List.getElem_cons_succ, List.getElem_cons_zero, List.setIfInBounds_toArray, List.set_cons_zero, List.set_cons_succ])
 refine wpAnyH_take (i := 10) (v := ?_) rfl (by kernel_rfl) (by kernel_rfl) (by kernel_rfl) (fun _ _ _ h => h) (Or.inl ⟨by kernel_rfl, ?_⟩) (by assumption) ?_
 rotate_left 1
 ·(intro w hSw; (try dsimp only at hSw); (try simp only [List.getElem_toArray, List.getElem_cons_succ, List.getElem_cons_zero]); go_simp; (try with_reducible rfl))
 (try simp only [Act.put, List.getElem_toArray, List.getElem_cons_succ, List.getElem_cons_zero, List.setIfInBounds_toArray, List.set_cons_zero, List.set_cons_succ])
 refine wpAnyH_take (i := 11) (v := ?_) rfl (by kernel_rfl) (by kernel_rfl) (by kernel_rfl) (fun _ _ _ h => h) (Or.inl ⟨by kernel_rfl, ?_⟩) (by assumption) ?_
 rotate_left 1
 ·(intro w hSw; (try dsimp only at hSw); (try simp only [List.getElem_toArray, List.getElem_cons_succ, List.getElem_cons_zero]); go_simp; (try with_reducible rfl))
 (try simp only [Act.put, List.getElem_toArray, List.getElem_cons_succ, List.getElem_cons_zero, List.setIfInBounds_toArray, List.set_cons_zero, List.set_cons_succ])
 refine wpAnyH_take (i := 12) (v := ?_) rfl (by kernel_rfl) (by kernel_rfl) (by kernel_rfl) (fun _ _ _ h => h) (Or.inl ⟨by kernel_rfl, ?_⟩) (by assumption) ?_
 rotate_left 1
 ·(intro w hSw; (try dsimp only at hSw); (try simp only [List.getElem_toArray, List.getElem_cons_succ, List.getElem_cons_zero]); go_simp; (try with_reducible rfl))
 (try simp only [Act.put, List.getElem_toArray, List.getElem_cons_succ, List.getElem_cons_zero, List.setIfInBounds_toArray, List.set_cons_zero, List.set_cons_succ])
 refine wpAnyH_take (i := 13) (v := ?_) rfl (by kernel_rfl) (by kernel_rfl) (by kernel_rfl) (fun _ _ _ h => h) (Or.inl ⟨by kernel_rfl, ?_⟩) (by assumption) ?_
 rotate_left 1
 ·(intro w hSw; (try dsimp only at hSw); (try simp only [List.getElem_toArray, List.getElem_cons_succ, List.getElem_cons_zero]); go_simp; (try with_reducible rfl))
 (try simp only [Act.put, List.getElem_toArray, List.getElem_cons_succ, List.getElem_cons_zero, List.setIfInBounds_toArray, List.set_cons_zero, List.set_cons_succ])
 refine wpAnyH_take (i := 14) (v := ?_) rfl (by kernel_rfl) (by kernel_rfl) (by kernel_rfl) (fun _ _ _ h => h) (Or.inl ⟨by kernel_rfl, ?_⟩) (by assumption) ?_
 rotate_left 1
 ·(intro w hSw; (try dsimp only at hSw); (try simp only [List.getElem_toArray, List.getElem_cons_succ, List.getElem_cons_zero]); go_simp; (try with_reducible rfl))
 (try simp only [Act.put, List.getElem_toArray, List.getElem_cons_succ, List.getElem_cons_zero, List.setIfInBounds_toArray, List.set_cons_zero, List.set_cons_succ])
 refine wpAnyH_ready (rs := [15]) (by kernel_rfl) (by simp) ?_
 refine AllReadyH.cons rfl (fun K hK => ?_) AllReadyH.nil
 (try simp only [List.getElem_toArray, List.getElem_cons_succ, List.getElem_cons_zero])
 go_simp
 refine (TreeSm.same_any 9 eS (by decide) (by decide) eB _ _ _ _ _ (Kd.C_below CT.out hHeld.2.2.2.2.2.2.2.2.2.2.2.2.2.2.2.2) hc1 (Kd.C_below CU.out hHeld.2.2.2.2.2.2.2.2.2.2.2.2.2.2.2.2) hc2).mono ?_
 rintro e w9 ⟨rfl, hb⟩
 rw [sSB]
 simp only []
 refine hK.out _ _ ?_ (fun hHeld => ?_)
 ·(try dsimp only); exact keep16 hHeld hb
 clear hK K
 (try simp only [Act.put, List.getElem_toArray, List.getElem_cons_succ, List.getElem_cons_zero, List.setIfInBounds_toArray, List.set_cons_zero, List.set_cons_succ])
 refine wpAnyH_take (i := 16) (v := ?_) rfl (by kernel_rfl) (by kernel_rfl) (by kernel_rfl) (fun _ _ _ h => h) (Or.inl ⟨by kernel_rfl, ?_⟩) (by assumption) ?_
 rotate_left 1
 ·(intro w hSw; (try dsimp only at hSw); (try simp only [List.getElem_toArray, List.getElem_cons_succ, List.getElem_cons_zero]); go_simp; (try with_reducible rfl))
 (try simp only [Act.put, List.getElem_toArray, List.getElem_cons_succ, List.getElem_cons_zero, List.setIfInBounds_toArray, List.set_cons_zero, List.set_cons_succ])
 refine wpAnyH_take (i := 17) (v := ?_) rfl (by kernel_rfl) (by kernel_rfl) (by kernel_rfl) (fun _ _ _ h => h) (Or.inl ⟨by kernel_rfl, ?_⟩) (by assumption) ?_
 rotate_left 1
 ·(intro w hSw; (try dsimp only at hSw); (try simp only [List.getElem_toArray, List.getElem_cons_succ, List.getElem_cons_zero]); go_simp; (try with_reducible rfl))
 (try simp only [Act.put, List.getElem_toArray, List.getElem_cons_succ, List.getElem_cons_zero, List.setIfInBounds_toArray, List.set_cons_zero, List.set_cons_succ])
 refine wpAnyH_take (i := 18) (v := ?_) rfl (by kernel_rfl) (by kernel_rfl) (by kernel_rfl) (fun _ _ _ h => h) (Or.inl ⟨by kernel_rfl, ?_⟩) (by assumption) ?_
 rotate_left 1
 ·(intro w hSw; (try dsimp only at hSw); (try simp only [List.getElem_toArray, List.getElem_cons_succ, List.getElem_cons_zero]); go_simp; (try with_reducible rfl))
 (try simp only [Act.put, List.getElem_toArray, List.getElem_cons_succ, List.getElem_cons_zero, List.setIfInBounds_toArray, List.set_cons_zero, List.set_cons_succ])
 refine wpAnyH_take (i := 19) (v := ?_) rfl (by kernel_rfl) (by kernel_rfl) (by kernel_rfl) (fun _ _ _ h => h) (Or.inl ⟨by kernel_rfl, ?_⟩) (by assumption) ?_
 rotate_left 1
 ·(intro w hSw; (try dsimp only at hSw); (try simp only [List.getElem_toArray, List.getElem_cons_succ, List.getElem_cons_zero]); go_simp; (try with_reducible rfl))
 (try simp only [Act.put, List.getElem_toArray, List.getElem_cons_succ, List.getElem_cons_zero, List.setIfInBounds_toArray, List.set_cons_zero, List.set_cons_succ])
 refine wpAnyH_take (i := 20) (v := ?_) rfl (by kernel_rfl) (by kernel_rfl) (by kernel_rfl) (fun _ _ _ h => h) (Or.inl ⟨by kernel_rfl, ?_⟩) (by assumption) ?_
 rotate_left 1
 ·(intro w hSw; (try dsimp only at hSw); (try simp only [List.getElem_toArray, List.getElem_cons_succ, List.getElem_cons_zero]); go_simp; (try with_reducible rfl))
 (try simp only [Act.put, List.getElem_toArray, List.getElem_cons_succ, List.getElem_cons_zero, List.setIfInBounds_toArray, List.set_cons_zero, List.set_cons_succ])
 refine wpAnyH_take (i := 21) (v := ?_) rfl (by kernel_rfl) (by kernel_rfl) (by kernel_rfl) (fun _ _ _ h => h) (Or.inl ⟨by kernel_rfl, ?_⟩) (by assumption) ?_
 rotate_left 1
 ·(intro w hSw; (try dsimp only at hSw); (try simp only [List.getElem_toArray, List.getElem_cons_succ, List.getElem_cons_zero]); go_simp; (try with_reducible rfl))
 (try simp only [Act.put, List.getElem_toArray, List.getElem_cons_succ, List.getElem_cons_zero, List.setIfInBounds_toArray, List.set_cons_zero, List.set_cons_succ])
 refine wpAnyH_take (i := 22) (v := ?_) rfl (by kernel_rfl) (by kernel_rfl) (by kernel_rfl) (fun _ _ _ h => h) (Or.inl ⟨by kernel_rfl, ?_⟩) (by assumption) ?_
 rotate_left 1
 ·(intro w hSw; (try dsimp only at hSw); (try simp only [List.getElem_toArray, List.getElem_cons_succ, List.getElem_cons_zero]); go_simp; (try with_reducible rfl))
 (try simp only [Act.put, List.getElem_toArray, List.getElem_cons_succ, List.getElem_cons_zero, List.setIfInBounds_toArray, List.set_cons_zero, List.set_cons_succ])
 refine wpAnyH_take (i := 23) (v := ?_) rfl (by kernel_rfl) (by kernel_rfl) (by kernel_rfl) (fun _ _ _ h => h) (Or.inl ⟨by kernel_rfl, ?_⟩) (by assumption) ?_
 rotate_left 1
 ·(intro w hSw; (try dsimp only at hSw); (try simp only [List.getElem_toArray, List.getElem_cons_succ, List.getElem_cons_zero]); go_simp; (try with_reducible rfl))
 (try simp only [Act.put, List.getElem_toArray, List.getElem_cons_succ, List.getElem_cons_zero, List.setIfInBounds_toArray, List.set_cons_zero, List.set_cons_succ])
 refine wpAnyH_take (i := 24) (v := ?_) rfl (by kernel_rfl) (by kernel_rfl) (by kernel_rfl) (fun _ _ _ h => h) (Or.inl ⟨by kernel_rfl, ?_⟩) (by assumption) ?_
 rotate_left 1
 ·(intro w hSw; (try dsimp only at hSw); (try simp only [List.getElem_toArray, List.getElem_cons_succ, List.getElem_cons_zero]); go_simp; (try with_reducible rfl))
 (try simp only [Act.put, List.getElem_toArray, List.getElem_cons_succ, List.getElem_cons_zero, List.setIfInBounds_toArray, List.set_cons_zero, List.set_cons_succ])
 refine wpAnyH_take (i := 25) (v := ?_) rfl (by kernel_rfl) (by kernel_rfl) (by kernel_rfl) (fun _ _ _ h => h) (Or.inl ⟨by kernel_rfl, ?_⟩) (by assumption) ?_
 rotate_left 1
 ·(intro w hSw; (try dsimp only at hSw); (try simp only [List.getElem_toArray, List.getElem_cons_succ, List.getElem_cons_zero]); go_simp; (try with_reducible rfl))
 (try simp only [Act.put, List.getElem_toArray, List.getElem_cons_succ, List.getElem_cons_zero, List.setIfInBounds_toArray, List.set_cons_zero, List.set_cons_succ])
 refine wpAnyH_take (i := 26) (v := ?_) rfl (by kernel_rfl) (by kernel_rfl) (by kernel_rfl) (fun _ _ _ h => h) (Or.inl ⟨by kernel_rfl, ?_⟩) (by assumption) ?_
 rotate_left 1
 ·(intro w hSw; (try dsimp only at hSw); (try simp only [List.getElem_toArray, List.getElem_cons_succ, List.getElem_cons_zero]); go_simp; (try with_reducible rfl))
 (try simp only [Act.put, List.getElem_toArray, List.getElem_cons_succ, List.getElem_cons_zero, List.setIfInBounds_toArray, List.set_cons_zero, List.set_cons_succ])
 refine wpAnyH_take (i := 27) (v := ?_) rfl (by kernel_rfl) (by kernel_rfl) (by kernel_rfl) (fun _ _ _ h => h) (Or.inl ⟨by kernel_rfl, ?_⟩) (by assumption) ?_
 rotate_left 1
 ·(intro w hSw; (try dsimp only at hSw); (try simp only [List.getElem_toArray, List.getElem_cons_succ, List.getElem_cons_zero]); go_simp; (try with_reducible rfl))
 (try simp only [Act.put, List.getElem_toArray, List.getElem_cons_succ, List.getElem_cons_zero, List.setIfInBounds_toArray, List.set_cons_zero, List.set_cons_succ])
 refine wpAnyH_take (i := 28) (v := ?_) rfl (by kernel_rfl) (by kernel_rfl) (by kernel_rfl) (fun _ _ _ h => h) (Or.inl ⟨by kernel_rfl, ?_⟩) (by assumption) ?_
 rotate_left 1
 ·(intro w hSw; (try dsimp only at hSw); (try simp only [List.getElem_toArray, List.getElem_cons_succ, List.getElem_cons_zero]); go_simp; (try with_reducible rfl))
 (try simp only [Act.put, List.getElem_toArray, List.getElem_cons_succ, List.getElem_cons_zero, List.setIfInBounds_toArray, List.set_cons_zero, List.set_cons_succ])
 refine wpAnyH_take (i := 29) (v := ?_) rfl (by kernel_rfl) (by kernel_rfl) (by kernel_rfl) (fun _ _ _ h => h) (Or.inl ⟨by kernel_rfl, ?_⟩) (by assumption) ?_
 rotate_left 1
 ·(intro w hSw; (try dsimp only at hSw); (try simp only [List.getElem_toArray, List.getElem_cons_succ, List.getElem_cons_zero]); go_simp; (try with_reducible rfl))
 (try simp only [Act.put, List.getElem_toArray, List.getElem_cons_succ, List.getElem_cons_zero, List.setIfInBounds_toArray, List.set_cons_zero, List.set_cons_succ])
 refine wpAnyH_take (i := 30) (v := ?_) rfl (by kernel_rfl) (by kernel_rfl) (by kernel_rfl) (fun _ _ _ h => h) (Or.inl ⟨by kernel_rfl, ?_⟩) (by assumption) ?_
 rotate_left 1
 ·(intro w hSw; (try dsimp only at hSw); (try simp only [List.getElem_toArray, List.getElem_cons_succ, List.getElem_cons_zero]); go_simp; (try with_reducible rfl))
 (try simp only [Act.put, List.getElem_toArray, List.getElem_cons_succ, List.getElem_cons_zero, List.setIfInBounds_toArray, List.set_cons_zero, List.set_cons_succ])
 refine wpAnyH_take (i := 31) (v := ?_) rfl (by kernel_rfl) (by kernel_rfl) (by kernel_rfl) (fun _ _ _ h => h) (Or.inl ⟨by kernel_rfl, ?_⟩) (by assumption) ?_
 rotate_left 1
 ·(intro w hSw; (try dsimp only at hSw); (try simp only [List.getElem_toArray, List.getElem_cons_succ, List.getElem_cons_zero]); go_simp; (try with_reducible rfl))
 (try simp only [Act.put, List.getElem_toArray, List.getElem_cons_succ, List.getElem_cons_zero, List.setIfInBounds_toArray, List.set_cons_zero, List.set_cons_succ])
 refine wpAnyH_take (i := 32) (v := ?_) rfl (by kernel_rfl) (by kernel_rfl) (by kernel_rfl) (fun _ _ _ h => h) (Or.inl ⟨by kernel_rfl, ?_⟩) (by assumption) ?_
 rotate_left 1
 ·(intro w hSw; (try dsimp only at hSw); (try simp only [List.getElem_toArray, List.getElem_cons_succ, List.getElem_cons_zero]); go_simp; (try with_reducible rfl))
 (try simp only [Act.put, List.getElem_toArray, List.getElem_cons_succ, List.getElem_cons_zero, List.setIfInBounds_toArray, List.set_cons_zero, List.set_cons_succ])
 refine wpAnyH_take (i := 33) (v := ?_) rfl (by kernel_rfl) (by kernel_rfl) (by kernel_rfl) (fun _ _ _ h => h) (Or.inl ⟨by kernel_rfl, ?_⟩) (by assumption) ?_
 rotate_left 1
 ·(intro w hSw; (try dsimp only at hSw); (try simp only [List.getElem_toArray, List.getElem_cons_succ, List.getElem_cons_zero]); go_simp; (try with_reducible rfl))
 (try simp only [Act.put, List.getElem_toArray, List.getElem_cons_succ, List.getElem_cons_zero, List.setIfInBounds_toArray, List.set_cons_zero, List.set_cons_succ])
 refine wpAnyH_take (i := 34) (v := ?_) rfl (by kernel_rfl) (by kernel_rfl) (by kernel_rfl) (fun _ _ _ h => h) (Or.inl ⟨by kernel_rfl, ?_⟩) (by assumption) ?_
 rotate_left 1
 ·(intro w hSw; (try dsimp only at hSw); (try simp only [List.getElem_toArray, List.getElem_cons_succ, List.getElem_cons_zero]); go_simp; (try with_reducible rfl))
 (try simp only [Act.put, List.getElem_toArray, List.getElem_cons_succ, List.getElem_cons_zero, List.setIfInBounds_toArray, List.set_cons_zero, List.set_cons_succ])
 refine wpAnyH_take (i := 35) (v := ?_) rfl (by kernel_rfl) (by kernel_rfl) (by kernel_rfl) (fun _ _ _ h => h) (Or.inl ⟨by kernel_rfl, ?_⟩) (by assumption) ?_
 rotate_left 1
 ·(intro w hSw; (try dsimp only at hSw); (try simp only [List.getElem_toArray, List.getElem_cons_succ, List.getElem_cons_zero]); go_simp; (try with_reducible rfl))
 (try simp only [Act.put, List.getElem_toArray, List.getElem_cons_succ, List.getElem_cons_zero, List.setIfInBounds_toArray, List.set_cons_zero, List.set_cons_succ])
 refine wpAnyH_take (i := 36) (v := ?_) rfl (by kernel_rfl) (by kernel_rfl) (by kernel_rfl) (fun _ _ _ h => h) (Or.inl ⟨by kernel_rfl, ?_⟩) (by assumption) ?_
 rotate_left 1
 ·(intro w hSw; (try dsimp only at hSw); (try simp only [List.getElem_toArray, List.getElem_cons_succ, List.getElem_cons_zero]); go_simp; (try with_reducible rfl))
 (try simp only [Act.put, List.getElem_toArray, List.getElem_cons_succ, List.getElem_cons_zero, List.setIfInBounds_toArray, List.set_cons_zero, List.set_cons_succ])
 refine wpAnyH_ready (rs := [37]) (by kernel_rfl) (by simp) ?_
 refine AllReadyH.cons rfl (fun K hK => ?_) AllReadyH.nil
 (try simp only [List.getElem_toArray, List.getElem_cons_succ, List.getElem_cons_zero])
 go_simp
 refine (TreeSm.same_any 9 eS (by decide) (by decide) eL _ _ _ _ _ (Kd.C_below CT.out hHeld.2.2.2.2.2.2.2.2.2.2.2.2.2.2.2.2) hc1 (Kd.C_below C5.out hHeld.2.2.2.2.2.2.2.2.2.2.2.2.2.2.2.2) hl5).mono ?_
 rintro e w9 ⟨rfl, hb⟩
 rw [sSL]
 simp only []
 refine hK.out _ _ ?_ (fun hHeld => ?_)
 ·(try dsimp only); exact keep16 hHeld hb
 clear hK K
 (try simp only [Act.put, List.getElem_toArray, List.getElem_cons_succ, List.getElem_cons_zero, List.setIfInBounds_toArray, List.set_cons_zero, List.set_cons_succ])
 refine wpAnyH_take (i := 38) (v := ?_) rfl (by kernel_rfl) (by kernel_rfl) (by kernel_rfl) (fun _ _ _ h => h) (Or.inl ⟨by kernel_rfl, ?_⟩) (by assumption) ?_
 rotate_left 1
 ·(intro w hSw; (try dsimp only at hSw); (try simp only [List.getElem_toArray, List.getElem_cons_succ, List.getElem_cons_zero]); go_simp; (try with_reducible rfl))
 (try simp only [Act.put, List.getElem_toArray, List.getElem_cons_succ, List.getElem_cons_zero, List.setIfInBounds_toArray, List.set_cons_zero, List.set_cons_succ])
 refine wpAnyH_take (i := 39) (v := ?_) rfl (by kernel_rfl) (by kernel_rfl) (by kernel_rfl) (fun _ _ _ h => h) (Or.inl ⟨by kernel_rfl, ?_⟩) (by assumption) ?_
 rotate_left 1
 ·(intro w hSw; (try dsimp only at hSw); (try simp only [List.getElem_toArray, List.getElem_cons_succ, List.getElem_cons_zero]); go_simp; (try with_reducible rfl))
 (try simp only [Act.put, List.getElem_toArray, List.getElem_cons_succ, List.getElem_cons_zero, List.setIfInBounds_toArray, List.set_cons_zero, List.set_cons_succ])
 refine wpAnyH_take (i := 40) (v := ?_) rfl (by kernel_rfl) (by kernel_rfl) (by kernel_rfl) (fun _ _ _ h => h) (Or.inl ⟨by kernel_rfl, ?_⟩) (by assumption) ?_
 rotate_left 1
 ·(intro w hSw; (try dsimp only at hSw); (try simp only [List.getElem_toArray, List.getElem_cons_succ, List.getElem_cons_zero]); go_simp; (try with_reducible rfl))
 (try simp only [Act.put, List.getElem_toArray, List.getElem_cons_succ, List.getElem_cons_zero, List.setIfInBounds_toArray, List.set_cons_zero, List.set_cons_succ])
 refine wpAnyH_take (i := 41) (v := ?_) rfl (by kernel_rfl) (by kernel_rfl) (by kernel_rfl) (fun _ _ _ h => h) (Or.inl ⟨by kernel_rfl, ?_⟩) (by assumption) ?_
 rotate_left 1
 ·(intro w hSw; (try dsimp only at hSw); (try simp only [List.getElem_toArray, List.getElem_cons_succ, List.getElem_cons_zero]); go_simp; (try with_reducible rfl))
 (try simp only [Act.put, List.getElem_toArray, List.getElem_cons_succ, List.getElem_cons_zero, List.setIfInBounds_toArray, List.set_cons_zero, List.set_cons_succ])
 refine wpAnyH_ready (rs := [42]) (by kernel_rfl) (by simp) ?_
 refine AllReadyH.cons rfl (fun K hK => ?_) AllReadyH.nil
 (try simp only [List.getElem_toArray, List.getElem_cons_succ, List.getElem_cons_zero])
 go_simp
 refine (TreeMay.whole_any e0 (by decide) _ _ _ (C0 _) (Nat.le_refl 0) (HT.out.on (below_step HB.out hHeld.2.2.2.2.2.2.2.2.2.2.2.2.2.2.2.2)).here).mono ?_
 rintro e w9 ⟨rfl, hb⟩
 rw [w0]
 simp only []
 refine hK.out _ _ ?_ (fun hHeld => ?_)
 ·(try dsimp only); exact keep16 hHeld hb
 clear hK K
 (try simp only [Act.put, List.getElem_toArray, List.getElem_cons_succ, List.getElem_cons_zero, List.setIfInBounds_toArray, List.set_cons_zero, List.set_cons_succ])
 refine wpAnyH_take (i := 43) (v := ?_) rfl (by kernel_rfl) (by kernel_rfl) (by kernel_rfl) (fun _ _ _ h => h) (Or.inl ⟨by kernel_rfl, ?_⟩) (by assumption) ?_
 rotate_left 1
 ·(intro w hSw; (try dsimp only at hSw); (try simp only [List.getElem_toArray, List.getElem_cons_succ, List.getElem_cons_zero]); go_simp; (try with_reducible rfl))
 (try simp only [Act.put, List.getElem_toArray, List.getElem_cons_succ, List.getElem_cons_zero, List.setIfInBounds_toArray, List.set_cons_zero, List.set_cons_succ])
 refine wpAnyH_take (i := 44) (v := ?_) rfl (by kernel_rfl) (by kernel_rfl) (by kernel_rfl) (fun _ _ _ h => h) (Or.inl ⟨by kernel_rfl, ?_⟩) (by assumption) ?_
 rotate_left 1
 ·(intro w hSw; (try dsimp only at hSw); (try simp only [List.getElem_toArray, List.getElem_cons_succ, List.getElem_cons_zero]); go_simp; (try with_reducible rfl))
 (try simp only [Act.put, List.getElem_toArray, List.getElem_cons_succ, List.getElem_cons_zero, List.setIfInBounds_toArray, List.set_cons_zero, List.set_cons_succ])
 refine wpAnyH_take (i := 45) (v := ?_) rfl (by kernel_rfl) (by kernel_rfl) (by kernel_rfl) (fun _ _ _ h => h) (Or.inl ⟨by kernel_rfl, ?_⟩) (by assumption) ?_
 rotate_left 1
 ·(intro w hSw; (try dsimp only at hSw); (try simp only [List.getElem_toArray, List.getElem_cons_succ, List.getElem_cons_zero]); go_simp; (try with_reducible rfl))
 (try simp only [Act.put, List.getElem_toArray, List.getElem_cons_succ, List.getElem_cons_zero, List.setIfInBounds_toArray, List.set_cons_zero, List.set_cons_succ])
 refine wpAnyH_take (i := 46) (v := ?_) rfl (by kernel_rfl) (by kernel_rfl) (by kernel_rfl) (fun _ _ _ h => h) (Or.inl ⟨by kernel_rfl, ?_⟩) (by assumption) ?_
 rotate_left 1
 ·(intro w hSw; (try dsimp only at hSw); (try simp only [List.getElem_toArray, List.getElem_cons_succ, List.getElem_cons_zero]); go_simp; (try with_reducible rfl))
 (try simp only [Act.put, List.getElem_toArray, List.getElem_cons_succ, List.getElem_cons_zero, List.setIfInBounds_toArray, List.set_cons_zero, List.set_cons_succ])
 refine wpAnyH_ready (rs := [47]) (by kernel_rfl) (by simp) ?_
 refine AllReadyH.cons rfl (fun K hK => ?_) AllReadyH.nil
 (try simp only [List.getElem_toArray, List.getElem_cons_succ, List.getElem_cons_zero])
 go_simp
 refine (TreeMay.whole_any eV (by decide) _ _ _ (C0 _) (Nat.le_refl 0) (HT.out.on (below_step HB.out hHeld.2.2.2.2.2.2.2.2.2.2.2.2.2.2.2.2)).here).mono ?_
 rintro e w9 ⟨rfl, hb⟩
 rw [wV]
 simp only []
 refine hK.out _ _ ?_ (fun hHeld => ?_)
 ·(try dsimp only); exact keep16 hHeld hb
 clear hK K
 (try simp only [Act.put, List.getElem_toArray, List.getElem_cons_succ, List.getElem_cons_zero, List.setIfInBounds_toArray, List.set_cons_zero, List.set_cons_succ])
 refine wpAnyH_take (i := 48) (v := ?_) rfl (by kernel_rfl) (by kernel_rfl) (by kernel_rfl) (fun _ _ _ h => h) (Or.inl ⟨by kernel_rfl, ?_⟩) (by assumption) ?_
 rotate_left 1
 ·(intro w hSw; (try dsimp only at hSw); (try simp only [List.getElem_toArray, List.getElem_cons_succ, List.getElem_cons_zero]); go_simp; (try with_reducible rfl))
 (try simp only [Act.put, List.getElem_toArray, List.getElem_cons_succ, List.getElem_cons_zero, List.setIfInBounds_toArray, List.set_cons_zero, List.set_cons_succ])
 refine wpAnyH_take (i := 49) (v := ?_) rfl (by kernel_rfl) (by kernel_rfl) (by kernel_rfl) (fun _ _ _ h => h) (Or.inl ⟨by kernel_rfl, ?_⟩) (by assumption) ?_
 rotate_left 1
 ·(intro w hSw; (try dsimp only at hSw); (try simp only [List.getElem_toArray, List.getElem_cons_succ, List.getElem_cons_zero]); go_simp; (try with_reducible rfl))
 (try simp only [Act.put, List.getElem_toArray, List.getElem_cons_succ, List.getElem_cons_zero, List.setIfInBounds_toArray, List.set_cons_zero, List.set_cons_succ])
 refine wpAnyH_take (i := 50) (v := ?_) rfl (by kernel_rfl) (by kernel_rfl) (by kernel_rfl) (fun _ _ _ h => h) (Or.inl ⟨by kernel_rfl, ?_⟩) (by assumption) ?_
 rotate_left 1
 ·(intro w hSw; (try dsimp only at hSw); (try simp only [List.getElem_toArray, List.getElem_cons_succ, List.getElem_cons_zero]); go_simp; (try with_reducible rfl))
 (try simp only [Act.put, List.getElem_toArray, List.getElem_cons_succ, List.getElem_cons_zero, List.setIfInBounds_toArray, List.set_cons_zero, List.set_cons_succ])
 refine wpAnyH_take (i := 51) (v := ?_) rfl (by kernel_rfl) (by kernel_rfl) (by kernel_rfl) (fun _ _ _ h => h) (Or.inl ⟨by kernel_rfl, ?_⟩) (by assumption) ?_
 rotate_left 1
 ·(intro w hSw; (try dsimp only at hSw); (try simp only [List.getElem_toArray, List.getElem_cons_succ, List.getElem_cons_zero]); go_simp; (try with_reducible rfl))
 (try simp only [Act.put, List.getElem_toArray, List.getElem_cons_succ, List.getElem_cons_zero, List.setIfInBounds_toArray, List.set_cons_zero, List.set_cons_succ])
 refine wpAnyH_ready (rs := [52]) (by kernel_rfl) (by simp) ?_
 refine AllReadyH.cons rfl (fun K hK => ?_) AllReadyH.nil
 (try simp only [List.getElem_toArray, List.getElem_cons_succ, List.getElem_cons_zero])
 go_simp
 refine (TreeMay.whole_any eC (by decide) _ _ _ (C0 _) (Nat.le_refl 0) (HT.out.on (below_step HB.out hHeld.2.2.2.2.2.2.2.2.2.2.2.2.2.2.2.2)).here).mono ?_
 rintro e w9 ⟨rfl, hb⟩
 rw [wC]
 simp only []
 refine hK.out _ _ ?_ (fun hHeld => ?_)
 ·(try dsimp only); exact keep16 hHeld hb
 clear hK K
 (try simp only [Act.put, List.getElem_toArray, List.getElem_cons_succ, List.getElem_cons_zero, List.setIfInBounds_toArray, List.set_cons_zero, List.set_cons_succ])
 refine wpAnyH_take (i := 53) (v := ?_) rfl (by kernel_rfl) (by kernel_rfl) (by kernel_rfl) (fun _ _ _ h => h) (Or.inl ⟨by kernel_rfl, ?_⟩) (by assumption) ?_
 rotate_left 1
 ·(intro w hSw; (try dsimp only at hSw); (try simp only [List.getElem_toArray, List.getElem_cons_succ, List.getElem_cons_zero]); go_simp; (try with_reducible rfl))
 (try simp only [Act.put, List.getElem_toArray, List.getElem_cons_succ, List.getElem_cons_zero, List.setIfInBounds_toArray, List.set_cons_zero, List.set_cons_succ])
 refine wpAnyH_take (i := 54) (v := ?_) rfl (by kernel_rfl) (by kernel_rfl) (by kernel_rfl) (fun _ _ _ h => h) (Or.inl ⟨by kernel_rfl, ?_⟩) (by assumption) ?_
 rotate_left 1
 ·(intro w hSw; (try dsimp only at hSw); (try simp only [List.getElem_toArray, List.getElem_cons_succ, List.getElem_cons_zero]); go_simp; (try with_reducible rfl))
 (try simp only [Act.put, List.getElem_toArray, List.getElem_cons_succ, List.getElem_cons_zero, List.setIfInBounds_toArray, List.set_cons_zero, List.set_cons_succ])
 refine wpAnyH_take (i := 55) (v := ?_) rfl (by kernel_rfl) (by kernel_rfl) (by kernel_rfl) (fun _ _ _ h => h) (Or.inl ⟨by kernel_rfl, ?_⟩) (by assumption) ?_
 rotate_left 1
 ·(intro w hSw; (try dsimp only at hSw); (try simp only [List.getElem_toArray, List.getElem_cons_succ, List.getElem_cons_zero]); go_simp; (try with_reducible rfl))
 (try simp only [Act.put, List.getElem_toArray, List.getElem_cons_succ, List.getElem_cons_zero, List.setIfInBounds_toArray, List.set_cons_zero, List.set_cons_succ])
 refine wpAnyH_take (i := 56) (v := ?_) rfl (by kernel_rfl) (by kernel_rfl) (by kernel_rfl) (fun _ _ _ h => h) (Or.inl ⟨by kernel_rfl, ?_⟩) (by assumption) ?_
 rotate_left 1
 ·(intro w hSw; (try dsimp only at hSw); (try simp only [List.getElem_toArray, List.getElem_cons_succ, List.getElem_cons_zero]); go_simp; (try with_reducible rfl))
 (try simp only [Act.put, List.getElem_toArray, List.getElem_cons_succ, List.getElem_cons_zero, List.setIfInBounds_toArray, List.set_cons_zero, List.set_cons_succ])
 refine wpAnyH_take (i := 57) (v := ?_) rfl (by kernel_rfl) (by kernel_rfl) (by kernel_rfl) (fun _ _ _ h => h) (Or.inl ⟨by kernel_rfl, ?_⟩) (by assumption) ?_
 rotate_left 1
 ·(intro w hSw; (try dsimp only at hSw); (try simp only [List.getElem_toArray, List.getElem_cons_succ, List.getElem_cons_zero]); go_simp; (try with_reducible rfl))
 (try simp only [Act.put, List.getElem_toArray, List.getElem_cons_succ, List.getElem_cons_zero, List.setIfInBounds_toArray, List.set_cons_zero, List.set_cons_succ])
 refine wpAnyH_take (i := 58) (v := ?_) rfl (by kernel_rfl) (by kernel_rfl) (by kernel_rfl) (fun _ _ _ h => h) (Or.inl ⟨by kernel_rfl, ?_⟩) (by assumption) ?_
 rotate_left 1
 ·(intro w hSw; (try dsimp only at hSw); (try simp only [List.getElem_toArray, List.getElem_cons_succ, List.getElem_cons_zero]); go_simp; (try with_reducible rfl))
 (try simp only [Act.put, List.getElem_toArray, List.getElem_cons_succ, List.getElem_cons_zero, List.setIfInBounds_toArray, List.set_cons_zero, List.set_cons_succ])
 refine wpAnyH_ready (rs := [59]) (by kernel_rfl) (by simp) ?_
 refine AllReadyH.cons rfl (fun K hK => ?_) AllReadyH.nil
 (try simp only [List.getElem_toArray, List.getElem_cons_succ, List.getElem_cons_zero])
 go_simp
 refine (TreeMay.whole_any eA (by decide) _ _ _ (Kd.C_below CN.out hHeld.2.2.2.2.2.2.2.2.2.2.2.2.2.2.2.2) (by show 1 ≤ c1 - 1; omega) (HT.out.on (below_step HB.out hHeld.2.2.2.2.2.2.2.2.2.2.2.2.2.2.2.2)).here).mono ?_
 rintro e w9 ⟨rfl, hb⟩
 rw [wA]
 simp only []
 refine hK.out _ _ ?_ (fun hHeld => ?_)
 ·(try dsimp only); exact keep16 hHeld hb
 clear hK K
 (try simp only [Act.put, List.getElem_toArray, List.getElem_cons_succ, List.getElem_cons_zero, List.setIfInBounds_toArray, List.set_cons_zero, List.set_cons_succ])
 refine wpAnyH_take (i := 60) (v := ?_) rfl (by kernel_rfl) (by kernel_rfl) (by kernel_rfl) (fun _ _ _ h => h) (Or.inl ⟨by kernel_rfl, ?_⟩) (by assumption) ?_
 rotate_left 1
 ·(intro w hSw; (try dsimp only at hSw); (try simp only [List.getElem_toArray, List.getElem_cons_succ, List.getElem_cons_zero]); go_simp; (try with_reducible rfl))
 (try simp only [Act.put, List.getElem_toArray, List.getElem_cons_succ, List.getElem_cons_zero, List.setIfInBounds_toArray, List.set_cons_zero, List.set_cons_succ])
 refine wpAnyH_take (i := 61) (v := ?_) rfl (by kernel_rfl) (by kernel_rfl) (by kernel_rfl) (fun _ _ _ h => h) (Or.inl ⟨by kernel_rfl, ?_⟩) (by assumption) ?_
 rotate_left 1
 ·(intro w hSw; (try dsimp only at hSw); (try simp only [List.getElem_toArray, List.getElem_cons_succ, List.getElem_cons_zero]); go_simp; (try with_reducible rfl))
 (try simp only [Act.put, List.getElem_toArray, List.getElem_cons_succ, List.getElem_cons_zero, List.setIfInBounds_toArray, List.set_cons_zero, List.set_cons_succ])
 refine wpAnyH_take (i := 62) (v := ?_) rfl (by kernel_rfl) (by kernel_rfl) (by kernel_rfl) (fun _ _ _ h => h) (Or.inl ⟨by kernel_rfl, ?_⟩) (by assumption) ?_
 rotate_left 1
 ·(intro w hSw; (try dsimp only at hSw); (try simp only [List.getElem_toArray, List.getElem_cons_succ, List.getElem_cons_zero]); go_simp; (try with_reducible rfl))
 (try simp only [Act.put, List.getElem_toArray, List.getElem_cons_succ, List.getElem_cons_zero, List.setIfInBounds_toArray, List.set_cons_zero, List.set_cons_succ])
 refine wpAnyH_take (i := 63) (v := ?_) rfl (by kernel_rfl) (by kernel_rfl) (by kernel_rfl) (fun _ _ _ h => h) (Or.inl ⟨by kernel_rfl, ?_⟩) (by assumption) ?_
 rotate_left 1
 ·(intro w hSw; (try dsimp only at hSw); (try simp only [List.getElem_toArray, List.getElem_cons_succ, List.getElem_cons_zero]); go_simp; (try with_reducible rfl))
 (try simp only [Act.put, List.getElem_toArray, List.getElem_cons_succ, List.getElem_cons_zero, List.setIfInBounds_toArray, List.set_cons_zero, List.set_cons_succ])
 refine wpAnyH_take (i := 64) (v := ?_) rfl (by kernel_rfl) (by kernel_rfl) (by kernel_rfl) (fun _ _ _ h => h) (Or.inl ⟨by kernel_rfl, ?_⟩) (by assumption) ?_
 rotate_left 1
 ·(intro w hSw; (try dsimp only at hSw); (try simp only [List.getElem_toArray, List.getElem_cons_succ, List.getElem_cons_zero]); go_simp; (try with_reducible rfl))
 (try simp only [Act.put, List.getElem_toArray, List.getElem_cons_succ, List.getElem_cons_zero, List.setIfInBounds_toArray, List.set_cons_zero, List.set_cons_succ])
 refine wpAnyH_take (i := 65) (v := ?_) rfl (by kernel_rfl) (by kernel_rfl) (by kernel_rfl) (fun _ _ _ h => h) (Or.inl ⟨by kernel_rfl, ?_⟩) (by assumption) ?_
 rotate_left 1
 ·(intro w hSw; (try dsimp only at hSw); (try simp only [List.getElem_toArray, List.getElem_cons_succ, List.getElem_cons_zero]); go_simp; (try with_reducible rfl))
 (try simp only [Act.put, List.getElem_toArray, List.getElem_cons_succ, List.getElem_cons_zero, List.setIfInBounds_toArray, List.set_cons_zero, List.set_cons_succ])
 refine wpAnyH_take (i := 66) (v := ?_) rfl (by kernel_rfl) (by kernel_rfl) (by kernel_rfl) (fun _ _ _ h => h) (Or.inl ⟨by kernel_rfl, ?_⟩) (by assumption) ?_
 rotate_left 1
 ·(intro w hSw; (try dsimp only at hSw); (try simp only [List.getElem_toArray, List.getElem_cons_succ, List.getElem_cons_zero]); go_simp; (try with_reducible rfl))
 (try simp only [Act.put, List.getElem_toArray, List.getElem_cons_succ, List.getElem_cons_zero, List.setIfInBounds_toArray, List.set_cons_zero, List.set_cons_succ])
 refine wpAnyH_take (i := 67) (v := ?_) rfl (by kernel_rfl) (by kernel_rfl) (by kernel_rfl) (fun _ _ _ h => h) (Or.inl ⟨by kernel_rfl, ?_⟩) (by assumption) ?_
 rotate_left 1
 ·(intro w hSw; (try dsimp only at hSw); (try simp only [List.getElem_toArray, List.getElem_cons_succ, List.getElem_cons_zero]); go_simp; (try with_reducible rfl))
 (try simp only [Act.put, List.getElem_toArray, List.getElem_cons_succ, List.getElem_cons_zero, List.setIfInBounds_toArray, List.set_cons_zero, List.set_cons_succ])
 refine wpAnyH_ready (rs := [68]) (by kernel_rfl) (by simp) ?_
 refine AllReadyH.cons rfl (fun K hK => ?_) AllReadyH.nil
 (try simp only [List.getElem_toArray, List.getElem_cons_succ, List.getElem_cons_zero])
 go_simp
 have cm := C2 (k24_mk w9 eS (A4 := some ad1) (c4 := c1) hc1 (Kd.C_below CT.out hHeld.2.2.2.2.2.2.2.2.2.2.2.2.2.2.2.2)) (k24_mk w9 eA (A4 := some ⟨ad1.block, ad1.off + 5, none⟩) (c4 := c1 - 1) (by show 1 ≤ c1 - 1; omega) (Kd.C_below CN.out hHeld.2.2.2.2.2.2.2.2.2.2.2.2.2.2.2.2))
 change Kd.C k24 (w9.alloc (Obj.cells #[.int .i64 3, .string ⟨#[]⟩, .int .i64 0, .int .i64 0, .slice (some ad1) 2 c1, .int .i64 8, .string ⟨#[65]⟩, .int .i64 0, .int .i64 0, .slice (some ⟨ad1.block, ad1.off + 5, none⟩) 1 (c1 - 1)] 24)) (some ⟨w9.heap.size, 0, none⟩) 2 eK.f4 at cm
 have hb : Below w9.heap.size w9 (w9.alloc (Obj.cells #[.int .i64 3, .string ⟨#[]⟩, .int .i64 0, .int .i64 0, .slice (some ad1) 2 c1, .int .i64 8, .string ⟨#[65]⟩, .int .i64 0, .int .i64 0, .slice (some ⟨ad1.block, ad1.off + 5, none⟩) 1 (c1 - 1)] 24)) := below_alloc (Below.refl _ _) _
 generalize w9.alloc (Obj.cells #[.int .i64 3, .string ⟨#[]⟩, .int .i64 0, .int .i64 0, .slice (some ad1) 2 c1, .int .i64 8, .string ⟨#[65]⟩, .int .i64 0, .int .i64 0, .slice (some ⟨ad1.block, ad1.off + 5, none⟩) 1 (c1 - 1)] 24) = wk at cm hb ⊢
 have CK := Lib.hid cm
 clear cm
 refine hK.out _ _ ?_ (fun hHeld => ?_)
 ·(try dsimp only); exact keep16 hHeld hb
 clear hK K
 (try simp only [Act.put, List.getElem_toArray, List.getElem_cons_succ, List.getElem_cons_zero, List.setIfInBounds_toArray, List.set_cons_zero, List.set_cons_succ])
 refine wpAnyH_take (i := 69) (v := ?_) rfl (by kernel_rfl) (by kernel_rfl) (by kernel_rfl) (fun _ _ _ h => h) (Or.inl ⟨by kernel_rfl, ?_⟩) (by assumption) ?_
 rotate_left 1
 ·(intro w hSw; (try dsimp only at hSw); (try simp only [List.getElem_toArray, List.getElem_cons_succ, List.getElem_cons_zero]); go_simp; (try with_reducible rfl))
 (try simp only [Act.put, List.getElem_toArray, List.getElem_cons_succ, List.getElem_cons_zero, List.setIfInBounds_toArray, List.set_cons_zero, List.set_cons_succ])
 refine wpAnyH_ready (rs := [70]) (by kernel_rfl) (by simp) ?_
 refine AllReadyH.cons rfl (fun K hK => ?_) AllReadyH.nil
 (try simp only [List.getElem_toArray, List.getElem_cons_succ, List.getElem_cons_zero])
 go_simp
 refine (TreeMay.whole_any eK (by decide) _ _ _ CK.out (Nat.le_refl 2) (HT.out.on (below_step HB.out hHeld.2.2.2.2.2.2.2.2.2.2.2.2.2.2.2.2)).here).mono ?_
 rintro e w9 ⟨rfl, hb⟩
 rw [wK]
 simp only []
 refine hK.out _ _ ?_ (fun hHeld => ?_)
 ·(try dsimp only); exact keep16 hHeld hb
 clear hK K
 (try simp only [Act.put, List.getElem_toArray, List.getElem_cons_succ, List.getElem_cons_zero, List.setIfInBounds_toArray, List.set_cons_zero, List.set_cons_succ])
 refine wpAnyH_take (i := 71) (v := ?_) rfl (by kernel_rfl) (by kernel_rfl) (by kernel_rfl) (fun _ _ _ h => h) (Or.inl ⟨by kernel_rfl, ?_⟩) (by assumption) ?_
 rotate_left 1
 ·(intro w hSw; (try dsimp only at hSw); (try simp only [List.getElem_toArray, List.getElem_cons_succ, List.getElem_cons_zero]); go_simp; (try with_reducible rfl))
 (try simp only [Act.put, List.getElem_toArray, List.getElem_cons_succ, List.getElem_cons_zero, List.setIfInBounds_toArray, List.set_cons_zero, List.set_cons_succ])
 refine wpAnyH_take (i := 72) (v := ?_) rfl (by kernel_rfl) (by kernel_rfl) (by kernel_rfl) (fun _ _ _ h => h) (Or.inl ⟨by kernel_rfl, ?_⟩) (by assumption) ?_
 rotate_left 1
 ·(intro w hSw; (try dsimp only at hSw); (try simp only [List.getElem_toArray, List.getElem_cons_succ, List.getElem_cons_zero]); go_simp; (try with_reducible rfl))
 (try simp only [Act.put, List.getElem_toArray, List.getElem_cons_succ, List.getElem_cons_zero, List.setIfInBounds_toArray, List.set_cons_zero, List.set_cons_succ])
 refine wpAnyH_done (by kernel_rfl) ?_ _
 have HB9 := Lib.hid (below_step HB.out hHeld.2.2.2.2.2.2.2.2.2.2.2.2.2.2.2.2)
 clear hHeld
 go_wp2_with fail
 go_ret
 exact ⟨rfl, HB9.out⟩
end TreeFix
end Go.Proofs.YthdkjfhpbigdpaaGreatDoor.Pure

/- The tables of the library that the program's functions read are laid in the world. -/
namespace Go.Proofs.YthdkjfhpbigdpaaGreatDoor.Q
open Go Go.RowKit Go.Proofs.YthdkjfhpbigdpaaGreatDoorW.PrintWords Go.Proofs.YthdkjfhpbigdpaaGreatDoorW.PrintLast Go.Proofs.YthdkjfhpbigdpaaGreatDoorW.PrintMore
def LaidW (w : World) : Prop := Lib.TabIs Tryz.prog w "strings.asciiSpace" .u8 Lib.asciiSpaceTab
theorem LaidW.below {w w' : World} (h : LaidW w) (hb : Below w.heap.size w w') : LaidW w' := ((Lib.tabBelow_of_tabIs h).on hb).here
end Go.Proofs.YthdkjfhpbigdpaaGreatDoor.Q

namespace Go.Proofs.YthdkjfhpbigdpaaGreatDoor.Q
open Go.RowKit Go.Proofs.YthdkjfhpbigdpaaGreatDoorW.PrintWords Go.Proofs.YthdkjfhpbigdpaaGreatDoorW.PrintLast Go.Proofs.YthdkjfhpbigdpaaGreatDoorW.PrintMore
attribute [local go_sem] max2_int min2_int max_two min_two max_three min_three max_four min_four
set_option linter.unusedVariables false
set_option linter.unusedSimpArgs false

def gossamerlaw02_fixed.f : Option Bool := some true
theorem gossamerlaw02_fixed.calls (r : Bool) (w : World) (hlaid : LaidW w) (h : gossamerlaw02_fixed.f = some r) :
  Calls Tryz.prog 5 #[] w fun e w' => e = .returned (.bool r) ∧ Below w.heap.size w w' := by
 cases h; exact Pure.TreeFix.fixed_any w hlaid

end Go.Proofs.YthdkjfhpbigdpaaGreatDoor.Q

namespace Go.Proofs.YthdkjfhpbigdpaaGreatDoor.Q
open Go.RowKit Go.Proofs.YthdkjfhpbigdpaaGreatDoorW.PrintWords Go.Proofs.YthdkjfhpbigdpaaGreatDoorW.PrintLast Go.Proofs.YthdkjfhpbigdpaaGreatDoorW.PrintMore
attribute [local go_sem] max2_int min2_int max_two min_two max_three min_three max_four min_four
set_option linter.unusedVariables false
set_option linter.unusedSimpArgs false

def tree_May.f (a0_0 : Int) (a0_1 : ByteArray) (a0_2 : Int) (a0_3 : Int) (l0_4 : List S24) : Option Bool :=
 if HTree.wt ⟨a0_0, a0_1, a0_2, a0_3, l0_4⟩ ≤ 1000000000 then some (HTree.whole ⟨a0_0, a0_1, a0_2, a0_3, l0_4⟩) else none
theorem tree_May.calls (a0_0 : Int) (a0_1 : ByteArray) (a0_2 : Int) (a0_3 : Int) (A0_4 : Option Addr) (c0_4 : Nat) (l0_4 : List S24) (r : Bool) (w : World) (hlaid : LaidW w) (hr0_4 : Kd.C k24 w A0_4 l0_4.length l0_4) (hc0_4 : l0_4.length ≤ c0_4) (h : tree_May.f a0_0 a0_1 a0_2 a0_3 l0_4 = some r) :
  Calls Tryz.prog 6 #[.agg #[.int .i64 a0_0, .string a0_1, .int .i64 a0_2, .int .i64 a0_3, .slice A0_4 l0_4.length c0_4]] w fun e w' => e = .returned (.bool r) ∧ Below w.heap.size w w' := by
 unfold tree_May.f at h
 by_cases hs : HTree.wt ⟨a0_0, a0_1, a0_2, a0_3, l0_4⟩ ≤ 1000000000
 ·rw [if_pos hs] at h
  cases h
  exact Pure.TreeMay.whole_any ⟨a0_0, a0_1, a0_2, a0_3, l0_4⟩ hs w A0_4 c0_4 hr0_4 hc0_4 hlaid
 ·rw [if_neg hs] at h; cases h

end Go.Proofs.YthdkjfhpbigdpaaGreatDoor.Q

namespace Go.Proofs.YthdkjfhpbigdpaaGreatDoor.Q
open Go.RowKit Go.Proofs.YthdkjfhpbigdpaaGreatDoorW.PrintWords Go.Proofs.YthdkjfhpbigdpaaGreatDoorW.PrintLast Go.Proofs.YthdkjfhpbigdpaaGreatDoorW.PrintMore
attribute [local go_sem] max2_int min2_int max_two min_two max_three min_three max_four min_four
set_option linter.unusedVariables false
set_option linter.unusedSimpArgs false

mutual
def gossamerref01_class.j0 : Nat → Int → Bool → Option (Int)
 | 0, _, _ => none
 | k + 1, x0, x8 => if x8 = true then (some 1) else (if x0 ≥ 65 then (gossamerref01_class.j1 k x0 (decide (x0 ≤ 90))) else (gossamerref01_class.j1 k x0 false))
def gossamerref01_class.j1 : Nat → Int → Bool → Option (Int)
 | 0, _, _ => none
 | k + 1, x0, x14 => if x14 = true then (some 2) else (if x0 ≥ 48 then (gossamerref01_class.j2 k x0 (decide (x0 ≤ 57))) else (gossamerref01_class.j2 k x0 false))
def gossamerref01_class.j2 : Nat → Int → Bool → Option (Int)
 | 0, _, _ => none
 | k + 1, x0, x20 => if x20 = true then (some 3) else (if x0 = 32 then (some 4) else (if x0 = 10 then (some 4) else (if x0 = 9 then (some 4) else (some 0))))
end
def gossamerref01_class.f (k : Nat) (a0 : Int) : Option (Int) := if a0 ≥ 97 then (gossamerref01_class.j0 k a0 (decide (a0 ≤ 122))) else (gossamerref01_class.j0 k a0 false)
theorem gossamerref01_class.mono_l : ∀ k, (∀ y0 y1, LeO (gossamerref01_class.j0 k y0 y1) (gossamerref01_class.j0 (k + 1) y0 y1)) ∧ (∀ y0 y1, LeO (gossamerref01_class.j1 k y0 y1) (gossamerref01_class.j1 (k + 1) y0 y1)) ∧ (∀ y0 y1, LeO (gossamerref01_class.j2 k y0 y1) (gossamerref01_class.j2 (k + 1) y0 y1))
 | 0 => ⟨fun _ _ r h => by simp [gossamerref01_class.j0] at h, fun _ _ r h => by simp [gossamerref01_class.j1] at h, fun _ _ r h => by simp [gossamerref01_class.j2] at h⟩
 | k + 1 => by
  obtain ⟨ih0, ih1, ih2⟩ := gossamerref01_class.mono_l k
  refine ⟨?_, ?_, ?_⟩
  ·intro y0 y1
   unfold gossamerref01_class.j0
   repeat' first
  |(with_reducible exact ih0 _ _)
  |(with_reducible exact ih1 _ _)
  |(with_reducible exact ih2 _ _)
  |(with_reducible exact LeO.refl _)
  |(with_reducible exact LeO.none _)
  |(with_reducible refine LeO.ite ?_ ?_)
  |(with_reducible refine LeO.bind ?_ (fun _ => ?_))
  |exact ih0 _ _
  |exact ih1 _ _
  |exact ih2 _ _
  |exact LeO.none _
  |refine LeO.ite ?_ ?_
  |refine LeO.bind ?_ (fun _ => ?_)
  ·intro y0 y1
   unfold gossamerref01_class.j1
   repeat' first
  |(with_reducible exact ih0 _ _)
  |(with_reducible exact ih1 _ _)
  |(with_reducible exact ih2 _ _)
  |(with_reducible exact LeO.refl _)
  |(with_reducible exact LeO.none _)
  |(with_reducible refine LeO.ite ?_ ?_)
  |(with_reducible refine LeO.bind ?_ (fun _ => ?_))
  |exact ih0 _ _
  |exact ih1 _ _
  |exact ih2 _ _
  |exact LeO.none _
  |refine LeO.ite ?_ ?_
  |refine LeO.bind ?_ (fun _ => ?_)
  ·intro y0 y1
   unfold gossamerref01_class.j2
   repeat' first
  |(with_reducible exact ih0 _ _)
  |(with_reducible exact ih1 _ _)
  |(with_reducible exact ih2 _ _)
  |(with_reducible exact LeO.refl _)
  |(with_reducible exact LeO.none _)
  |(with_reducible refine LeO.ite ?_ ?_)
  |(with_reducible refine LeO.bind ?_ (fun _ => ?_))
  |exact ih0 _ _
  |exact ih1 _ _
  |exact ih2 _ _
  |exact LeO.none _
  |refine LeO.ite ?_ ?_
  |refine LeO.bind ?_ (fun _ => ?_)
theorem gossamerref01_class.mono : ∀ a0 k, LeO (gossamerref01_class.f k a0) (gossamerref01_class.f (k + 1) a0) := by
 intro a0 k
 obtain ⟨ih0, ih1, ih2⟩ := gossamerref01_class.mono_l k
 unfold gossamerref01_class.f
 repeat' first
  |(with_reducible exact ih0 _ _)
  |(with_reducible exact ih1 _ _)
  |(with_reducible exact ih2 _ _)
  |(with_reducible exact LeO.refl _)
  |(with_reducible exact LeO.none _)
  |(with_reducible refine LeO.ite ?_ ?_)
  |(with_reducible refine LeO.bind ?_ (fun _ => ?_))
  |exact ih0 _ _
  |exact ih1 _ _
  |exact ih2 _ _
  |exact LeO.none _
  |refine LeO.ite ?_ ?_
  |refine LeO.bind ?_ (fun _ => ?_)
set_option maxHeartbeats 8000000 in
set_option maxRecDepth 100000 in
theorem gossamerref01_class.calls (k : Nat) (a0 : Int) (r : Int) (w : World) (h : gossamerref01_class.f k a0 = some r) :
  Calls Tryz.prog 42 #[.int .u8 a0] w fun e w' => e = .returned (.int .i64 r) ∧ Drawn0 w w' := by
 have H : (if a0 ≥ 97 then (gossamerref01_class.j0 k a0 (decide (a0 ≤ 122))) else (gossamerref01_class.j0 k a0 false)) = some r := h
 clear h
 have HC2 := Aside0.mk H
 clear H
 go_enter Tryz.func42, Tryz.ntmps42
 go_upto_region 1 with (fail)
 go_cut [8] (fun v8 wc => ∃ (kq : Nat) (x8_1 : Bool), v8 = .bool x8_1 ∧ Aside0 (gossamerref01_class.j0 kq a0 x8_1 = some r) ∧ Aside0 (kq ≤ k) ∧ Drawn0 w wc)
 case first =>
  have H := HC2.out
  clear HC2
  by_cases c3 : a0 ≥ 97
  ·rw [if_pos c3] at H
   have c3b0 : decide (97 ≤ a0) = true := decide_eq_true c3
   clear c3
   (first|rw [c3b0]|(simp only [i64_w, i32_w]; rw [c3b0]) | skip)
   have H' := Aside0.mk H
   clear H
   go_wp2
   go_meet
   case rel => exact ⟨_, (decide (a0 ≤ 122)), (by first|rfl|(simp; done)|(simp [*]; done)), H', ⟨by first | omega|exact Nat.le_refl _⟩, by repeat (first|exact Drawn0.refl _|apply Drawn0.step)⟩
  ·rw [if_neg c3] at H
   have c3b0 : decide (97 ≤ a0) = false := decide_eq_false c3
   clear c3
   (first|rw [c3b0]|(simp only [i64_w, i32_w]; rw [c3b0]) | skip)
   have H' := Aside0.mk H
   clear H
   go_wp2
   go_meet
   case rel => exact ⟨_, (false), (by first|rfl|(simp; done)|(simp [*]; done)), H', ⟨by first | omega|exact Nat.le_refl _⟩, by repeat (first|exact Drawn0.refl _|apply Drawn0.step)⟩
 case rest =>
  clear HC2
  try clear p2
  try clear c3
  try clear c3b0
  obtain ⟨kq, x8_1, rfl, HA, HJ1, ⟨mc1, rfl⟩⟩ := hcut
  cases kq with
  | zero => exact absurd HA.out (by simp [gossamerref01_class.j0])
  | succ kj1 =>
   have H := HA.out
   clear HA
   simp only [gossamerref01_class.j0] at H
   by_cases c4 : x8_1 = true
   ·subst c4
    have H1 : (some 1) = some r := by rw [if_pos rfl] at H; exact H
    clear H
    have H := H1
    clear H1
    obtain rfl := Option.some.inj H
    go_wp2
    go_ret
    exact ⟨by first|rfl|(simp; done)|(simp [*]; done), by repeat (first|exact Drawn0.refl _|apply Drawn0.step)⟩
   ·replace c4 := Bool.eq_false_iff.mpr c4
    subst c4
    have H1 : (if a0 ≥ 65 then (gossamerref01_class.j1 kj1 a0 (decide (a0 ≤ 90))) else (gossamerref01_class.j1 kj1 a0 false)) = some r := by rw [if_neg (show ¬ (false = true) by decide)] at H; exact H
    clear H
    have H := H1
    clear H1
    have HC5 := Aside0.mk H
    clear H
    go_upto_region 3 with (fail)
    go_cut [14] (fun v14 wc => ∃ (kq : Nat) (x14_4 : Bool), v14 = .bool x14_4 ∧ Aside0 (gossamerref01_class.j1 kq a0 x14_4 = some r) ∧ Aside0 (kq ≤ kj1) ∧ Drawn0 w wc)
    case first =>
     have H := HC5.out
     clear HC5
     by_cases c6 : a0 ≥ 65
     ·rw [if_pos c6] at H
      have c6b0 : decide (65 ≤ a0) = true := decide_eq_true c6
      clear c6
      (first|rw [c6b0]|(simp only [i64_w, i32_w]; rw [c6b0]) | skip)
      have H' := Aside0.mk H
      clear H
      go_wp2
      go_meet
      case rel => exact ⟨_, (decide (a0 ≤ 90)), (by first|rfl|(simp; done)|(simp [*]; done)), H', ⟨by have := HJ1.out; first | omega|exact Nat.le_refl _⟩, by repeat (first|exact Drawn0.refl _|apply Drawn0.step)⟩
     ·rw [if_neg c6] at H
      have c6b0 : decide (65 ≤ a0) = false := decide_eq_false c6
      clear c6
      (first|rw [c6b0]|(simp only [i64_w, i32_w]; rw [c6b0]) | skip)
      have H' := Aside0.mk H
      clear H
      go_wp2
      go_meet
      case rel => exact ⟨_, (false), (by first|rfl|(simp; done)|(simp [*]; done)), H', ⟨by have := HJ1.out; first | omega|exact Nat.le_refl _⟩, by repeat (first|exact Drawn0.refl _|apply Drawn0.step)⟩
    case rest =>
     clear HC5
     try clear c1
     try clear p2
     try clear c3
     try clear c3b0
     try clear c4
     try clear c6
     try clear c6b0
     try clear p2
     obtain ⟨kq, x14_4, rfl, HA, HJ4, ⟨mc4, rfl⟩⟩ := hcut
     cases kq with
     | zero => exact absurd HA.out (by simp [gossamerref01_class.j1])
     | succ kj4 =>
      have H := HA.out
      clear HA
      simp only [gossamerref01_class.j1] at H
      by_cases c7 : x14_4 = true
      ·subst c7
       have H1 : (some 2) = some r := by rw [if_pos rfl] at H; exact H
       clear H
       have H := H1
       clear H1
       obtain rfl := Option.some.inj H
       go_wp2
       go_ret
       exact ⟨by first|rfl|(simp; done)|(simp [*]; done), by repeat (first|exact Drawn0.refl _|apply Drawn0.step)⟩
      ·replace c7 := Bool.eq_false_iff.mpr c7
       subst c7
       have H1 : (if a0 ≥ 48 then (gossamerref01_class.j2 kj4 a0 (decide (a0 ≤ 57))) else (gossamerref01_class.j2 kj4 a0 false)) = some r := by rw [if_neg (show ¬ (false = true) by decide)] at H; exact H
       clear H
       have H := H1
       clear H1
       have HC8 := Aside0.mk H
       clear H
       go_upto_region 5 with (fail)
       go_cut [20] (fun v20 wc => ∃ (kq : Nat) (x20_7 : Bool), v20 = .bool x20_7 ∧ Aside0 (gossamerref01_class.j2 kq a0 x20_7 = some r) ∧ Aside0 (kq ≤ kj4) ∧ Drawn0 w wc)
       case first =>
        have H := HC8.out
        clear HC8
        by_cases c9 : a0 ≥ 48
        ·rw [if_pos c9] at H
         have c9b0 : decide (48 ≤ a0) = true := decide_eq_true c9
         clear c9
         (first|rw [c9b0]|(simp only [i64_w, i32_w]; rw [c9b0]) | skip)
         have H' := Aside0.mk H
         clear H
         go_wp2
         go_meet
         case rel => exact ⟨_, (decide (a0 ≤ 57)), (by first|rfl|(simp; done)|(simp [*]; done)), H', ⟨by have := HJ1.out; have := HJ4.out; first | omega|exact Nat.le_refl _⟩, by repeat (first|exact Drawn0.refl _|apply Drawn0.step)⟩
        ·rw [if_neg c9] at H
         have c9b0 : decide (48 ≤ a0) = false := decide_eq_false c9
         clear c9
         (first|rw [c9b0]|(simp only [i64_w, i32_w]; rw [c9b0]) | skip)
         have H' := Aside0.mk H
         clear H
         go_wp2
         go_meet
         case rel => exact ⟨_, (false), (by first|rfl|(simp; done)|(simp [*]; done)), H', ⟨by have := HJ1.out; have := HJ4.out; first | omega|exact Nat.le_refl _⟩, by repeat (first|exact Drawn0.refl _|apply Drawn0.step)⟩
       case rest =>
        clear HC8
        try clear c1
        try clear p2
        try clear c3
        try clear c3b0
        try clear c4
        try clear c6
        try clear c6b0
        try clear c7
        try clear c9
        try clear c9b0
        try clear p2
        obtain ⟨kq, x20_7, rfl, HA, HJ7, ⟨mc7, rfl⟩⟩ := hcut
        cases kq with
        | zero => exact absurd HA.out (by simp [gossamerref01_class.j2])
        | succ kj7 =>
         have H := HA.out
         clear HA
         simp only [gossamerref01_class.j2] at H
         by_cases c10 : x20_7 = true
         ·subst c10
          have H1 : (some 3) = some r := by rw [if_pos rfl] at H; exact H
          clear H
          have H := H1
          clear H1
          obtain rfl := Option.some.inj H
          go_wp2
          go_ret
          exact ⟨by first|rfl|(simp; done)|(simp [*]; done), by repeat (first|exact Drawn0.refl _|apply Drawn0.step)⟩
         ·replace c10 := Bool.eq_false_iff.mpr c10
          subst c10
          have H1 : (if a0 = 32 then (some 4) else (if a0 = 10 then (some 4) else (if a0 = 9 then (some 4) else (some 0)))) = some r := by rw [if_neg (show ¬ (false = true) by decide)] at H; exact H
          clear H
          have H := H1
          clear H1
          by_cases c11 : a0 = 32
          ·rw [if_pos c11] at H
           have c11b0 : (a0 == 32) = true := beq_iff_eq.mpr c11
           have c11b1 : (a0 != 32) = false := bne_eq_false_iff_eq.mpr c11
           clear c11
           obtain rfl := Option.some.inj H
           go_wp2
           go_ret
           exact ⟨by first|rfl|(simp; done)|(simp [*]; done), by repeat (first|exact Drawn0.refl _|apply Drawn0.step)⟩
          ·rw [if_neg c11] at H
           have c11b0 : (a0 == 32) = false := beq_eq_false_iff_ne.mpr c11
           have c11b1 : (a0 != 32) = true := bne_iff_ne.mpr c11
           by_cases c12 : a0 = 10
           ·rw [if_pos c12] at H
            have c12b0 : (a0 == 10) = true := beq_iff_eq.mpr c12
            have c12b1 : (a0 != 10) = false := bne_eq_false_iff_eq.mpr c12
            clear c12
            obtain rfl := Option.some.inj H
            go_wp2
            go_ret
            exact ⟨by first|rfl|(simp; done)|(simp [*]; done), by repeat (first|exact Drawn0.refl _|apply Drawn0.step)⟩
           ·rw [if_neg c12] at H
            have c12b0 : (a0 == 10) = false := beq_eq_false_iff_ne.mpr c12
            have c12b1 : (a0 != 10) = true := bne_iff_ne.mpr c12
            by_cases c13 : a0 = 9
            ·rw [if_pos c13] at H
             have c13b0 : (a0 == 9) = true := beq_iff_eq.mpr c13
             have c13b1 : (a0 != 9) = false := bne_eq_false_iff_eq.mpr c13
             clear c13
             obtain rfl := Option.some.inj H
             go_wp2
             go_ret
             exact ⟨by first|rfl|(simp; done)|(simp [*]; done), by repeat (first|exact Drawn0.refl _|apply Drawn0.step)⟩
            ·rw [if_neg c13] at H
             have c13b0 : (a0 == 9) = false := beq_eq_false_iff_ne.mpr c13
             have c13b1 : (a0 != 9) = true := bne_iff_ne.mpr c13
             obtain rfl := Option.some.inj H
             go_wp2
             go_ret
             exact ⟨by first|rfl|(simp; done)|(simp [*]; done), by repeat (first|exact Drawn0.refl _|apply Drawn0.step)⟩

end Go.Proofs.YthdkjfhpbigdpaaGreatDoor.Q

namespace Go.Proofs.YthdkjfhpbigdpaaGreatDoor.Q
open Go.RowKit Go.Proofs.YthdkjfhpbigdpaaGreatDoorW.PrintWords Go.Proofs.YthdkjfhpbigdpaaGreatDoorW.PrintLast Go.Proofs.YthdkjfhpbigdpaaGreatDoorW.PrintMore
attribute [local go_sem] max2_int min2_int max_two min_two max_three min_three max_four min_four
set_option linter.unusedVariables false
set_option linter.unusedSimpArgs false

def gossamerref01_run.l0 : Nat → ByteArray → Int → Int → Bool → Option (Int × Bool)
 | 0, _, _, _, _ => none
 | k + 1, x0, x1, x6, x7 => if (wrap64 (x1 + x6)) < (x0.size : Int) then (if 0 ≤ (wrap64 (x1 + x6)) then ((gossamerref01_class.f k (bt x0 (wrap64 (x1 + x6)))).bind fun t143 => (if t143 < 1 then (some (x6, x7)) else (if t143 > 3 then (some (x6, x7)) else (if x7 = true then (gossamerref01_run.l0 k x0 x1 (wrap64 (x6 + 1)) true) else (gossamerref01_run.l0 k x0 x1 (wrap64 (x6 + 1)) (decide (t143 < 3))))))) else (none)) else (some (x6, x7))
def gossamerref01_run.f (k : Nat) (a0 : ByteArray) (a1 : Int) : Option (Int × Bool) := gossamerref01_run.l0 k a0 a1 0 false
theorem gossamerref01_run.mono_l : ∀ k, (∀ y0 y1 y2 y3, LeO (gossamerref01_run.l0 k y0 y1 y2 y3) (gossamerref01_run.l0 (k + 1) y0 y1 y2 y3))
 | 0 => fun _ _ _ _ r h => by simp [gossamerref01_run.l0] at h
 | k + 1 => by
  have ih0 := gossamerref01_run.mono_l k
  ·intro y0 y1 y2 y3
   unfold gossamerref01_run.l0
   repeat' first
  |(with_reducible exact ih0 _ _ _ _)
  |(with_reducible exact gossamerref01_class.mono _ _)
  |(with_reducible exact LeO.refl _)
  |(with_reducible exact LeO.none _)
  |(with_reducible refine LeO.ite ?_ ?_)
  |(with_reducible refine LeO.bind ?_ (fun _ => ?_))
  |exact ih0 _ _ _ _
  |exact gossamerref01_class.mono _ _
  |exact LeO.none _
  |refine LeO.ite ?_ ?_
  |refine LeO.bind ?_ (fun _ => ?_)
theorem gossamerref01_run.mono : ∀ a0 a1 k, LeO (gossamerref01_run.f k a0 a1) (gossamerref01_run.f (k + 1) a0 a1) := by
 intro a0 a1 k
 have ih0 := gossamerref01_run.mono_l k
 unfold gossamerref01_run.f
 repeat' first
  |(with_reducible exact ih0 _ _ _ _)
  |(with_reducible exact gossamerref01_class.mono _ _)
  |(with_reducible exact LeO.refl _)
  |(with_reducible exact LeO.none _)
  |(with_reducible refine LeO.ite ?_ ?_)
  |(with_reducible refine LeO.bind ?_ (fun _ => ?_))
  |exact ih0 _ _ _ _
  |exact gossamerref01_class.mono _ _
  |exact LeO.none _
  |refine LeO.ite ?_ ?_
  |refine LeO.bind ?_ (fun _ => ?_)
set_option maxHeartbeats 8000000 in
set_option maxRecDepth 100000 in
theorem gossamerref01_run.calls (k : Nat) (a0 : ByteArray) (a1 : Int) (r1 : Int) (r2 : Bool) (w : World) (h : gossamerref01_run.f k a0 a1 = some (r1, r2)) :
  Calls Tryz.prog 40 #[.string a0, .int .i64 a1] w fun e w' => e = .returned (.tuple #[.int .i64 r1, .bool r2]) ∧ Drawn0 w w' := by
 have H : (gossamerref01_run.l0 k a0 a1 0 false) = some (r1, r2) := h
 clear h
 have H' := Aside0.mk H
 clear H
 go_enter Tryz.func40, Tryz.ntmps40
 go_wp2
 go_loopg [6, 7] k (fun kq v6 v7 w' => ∃ (x6_1 : Int) (x7_1 : Bool), v6 = .int .i64 x6_1 ∧ v7 = .bool x7_1 ∧ Aside0 (gossamerref01_run.l0 kq a0 a1 x6_1 x7_1 = some (r1, r2)) ∧ Aside0 (kq ≤ k) ∧ Drawn0 w w')
 case atStart => exact ⟨(0), (false), (by first|rfl|(simp; done)|(simp [*]; done)), (by first|rfl|(simp; done)|(simp [*]; done)), H', ⟨Nat.le_refl _⟩, by repeat (first|exact Drawn0.refl _|apply Drawn0.step)⟩
 case round =>
  clear H'
  try clear p2
  obtain ⟨x6_1, x7_1, rfl, rfl, HA, HK1, ⟨m1, rfl⟩⟩ := hrel
  cases gk with
  | zero => exact absurd HA.out (by simp [gossamerref01_run.l0])
  | succ k1 =>
   have H := HA.out
   clear HA
   simp only [gossamerref01_run.l0] at H
   by_cases c3 : (wrap64 (a1 + x6_1)) < (a0.size : Int)
   ·rw [if_pos c3] at H
    have c3b0 : decide ((wrap64 (a1 + x6_1)) < (a0.size : Int)) = true := decide_eq_true c3
    clear c3
    obtain ⟨ji4, hji4⟩ : ∃ j_ : Int, (wrap64 (a1 + x6_1)) = j_ := ⟨_, rfl⟩
    replace H : (if 0 ≤ (ji4) then ((gossamerref01_class.f k1 (bt a0 (ji4))).bind fun t143 => (if t143 < 1 then (some (x6_1, x7_1)) else (if t143 > 3 then (some (x6_1, x7_1)) else (if x7_1 = true then (gossamerref01_run.l0 k1 a0 a1 (wrap64 (x6_1 + 1)) true) else (gossamerref01_run.l0 k1 a0 a1 (wrap64 (x6_1 + 1)) (decide (t143 < 3))))))) else (none)) = some (r1, r2) := by first | (rw [hji4] at H; exact H)|(simp only [hji4] at H ⊢; exact H)
    (try rw [hji4] at c3b0)
    have hji4w : (IntKind.i64.wrap (a1 + x6_1)) = ji4 := (i64_w _).trans hji4
    by_cases c5 : 0 ≤ (ji4)
    ·rw [if_pos c5] at H
     have c5b0 : decide (0 ≤ (ji4)) = true := decide_eq_true c5
     clear c5
     replace H := Option.bind_eq_some_iff.mp H
     obtain ⟨t143, A70, H⟩ := H
     replace H : (if t143 < 1 then (some (x6_1, x7_1)) else (if t143 > 3 then (some (x6_1, x7_1)) else (if x7_1 = true then (gossamerref01_run.l0 k1 a0 a1 (wrap64 (x6_1 + 1)) true) else (gossamerref01_run.l0 k1 a0 a1 (wrap64 (x6_1 + 1)) (decide (t143 < 3)))))) = some (r1, r2) := H
     have A7 := Aside0.mk A70
     clear A70
     by_cases c8 : t143 < 1
     ·rw [if_pos c8] at H
      have c8b0 : decide (t143 < 1) = true := decide_eq_true c8
      clear c8
      simp only [Option.some.injEq, Prod.mk.injEq] at H
      obtain ⟨rfl, rfl⟩ := H
      have p6 : 0 ≤ ((ji4) : Int) := of_decide_eq_true (by first|(with_reducible assumption) | assumption)
      have q6 : (ji4) < (a0.size : Int) := of_decide_eq_true (by first|(with_reducible assumption) | assumption)
      have hx6 := bt_at a0 (ji4)
      replace p6 := eq_true p6
      replace q6 := eq_true q6
      go_wp2_with (first|((with_reducible refine gate_callee (f := 42) rfl ?_); refine goesL_ (some 20) rfl rfl Tryz.func42 (by kernel_rfl) rfl #[.int .u8 (bt a0 (ji4))] rfl (by (try simp only [List.map_toArray, List.map_cons, List.map_nil]); first|done|(simp only [hji4]; rfl)|rfl|(simp only [List.length_drop, List.length_take]; rfl)) ?_; (with_reducible refine (gossamerref01_class.calls k1 (bt a0 (ji4)) t143 _ A7.out).mono ?_); rintro e w' ⟨rfl, ⟨nd, rfl⟩⟩; refine ⟨_, rfl, ?_⟩))
      go_ret2
      exact ⟨by first|rfl|(simp; done)|(simp only [← hji4] <;> (first|rfl | simp))|(simp [*]; done), by repeat (first|exact Drawn0.refl _|apply Drawn0.step)⟩
     ·rw [if_neg c8] at H
      have c8b0 : decide (t143 < 1) = false := decide_eq_false c8
      clear c8
      by_cases c9 : t143 > 3
      ·rw [if_pos c9] at H
       have c9b0 : decide (3 < t143) = true := decide_eq_true c9
       clear c9
       simp only [Option.some.injEq, Prod.mk.injEq] at H
       obtain ⟨rfl, rfl⟩ := H
       have p6 : 0 ≤ ((ji4) : Int) := of_decide_eq_true (by first|(with_reducible assumption) | assumption)
       have q6 : (ji4) < (a0.size : Int) := of_decide_eq_true (by first|(with_reducible assumption) | assumption)
       have hx6 := bt_at a0 (ji4)
       replace p6 := eq_true p6
       replace q6 := eq_true q6
       go_wp2_with (first|((with_reducible refine gate_callee (f := 42) rfl ?_); refine goesL_ (some 20) rfl rfl Tryz.func42 (by kernel_rfl) rfl #[.int .u8 (bt a0 (ji4))] rfl (by (try simp only [List.map_toArray, List.map_cons, List.map_nil]); first|done|(simp only [hji4]; rfl)|rfl|(simp only [List.length_drop, List.length_take]; rfl)) ?_; (with_reducible refine (gossamerref01_class.calls k1 (bt a0 (ji4)) t143 _ A7.out).mono ?_); rintro e w' ⟨rfl, ⟨nd, rfl⟩⟩; refine ⟨_, rfl, ?_⟩))
       go_ret2
       exact ⟨by first|rfl|(simp; done)|(simp only [← hji4] <;> (first|rfl | simp))|(simp [*]; done), by repeat (first|exact Drawn0.refl _|apply Drawn0.step)⟩
      ·rw [if_neg c9] at H
       have c9b0 : decide (3 < t143) = false := decide_eq_false c9
       clear c9
       by_cases c10 : x7_1 = true
       ·subst c10
        have H1 : (gossamerref01_run.l0 k1 a0 a1 (wrap64 (x6_1 + 1)) true) = some (r1, r2) := by rw [if_pos rfl] at H; exact H
        clear H
        have H := H1
        clear H1
        have H' := Aside0.mk H
        clear H
        have p6 : 0 ≤ ((ji4) : Int) := of_decide_eq_true (by first|(with_reducible assumption) | assumption)
        have q6 : (ji4) < (a0.size : Int) := of_decide_eq_true (by first|(with_reducible assumption) | assumption)
        have hx6 := bt_at a0 (ji4)
        replace p6 := eq_true p6
        replace q6 := eq_true q6
        go_wp2_with (first|((with_reducible refine gate_callee (f := 42) rfl ?_); refine goesL_ (some 20) rfl rfl Tryz.func42 (by kernel_rfl) rfl #[.int .u8 (bt a0 (ji4))] rfl (by (try simp only [List.map_toArray, List.map_cons, List.map_nil]); first|done|(simp only [hji4]; rfl)|rfl|(simp only [List.length_drop, List.length_take]; rfl)) ?_; (with_reducible refine (gossamerref01_class.calls k1 (bt a0 (ji4)) t143 _ A7.out).mono ?_); rintro e w' ⟨rfl, ⟨nd, rfl⟩⟩; refine ⟨_, rfl, ?_⟩))
        go_roundg k1
        case measure => have := HK1.out; omega
        case rel => exact ⟨(wrap64 (x6_1 + 1)), (true), (by first|rfl|(simp; done)|(simp [*]; done)), (by first|rfl|(simp; done)|(simp [*]; done)), H', ⟨by have := HK1.out; omega⟩, by repeat (first|exact Drawn0.refl _|apply Drawn0.step)⟩
       ·replace c10 := Bool.eq_false_iff.mpr c10
        subst c10
        have H1 : (gossamerref01_run.l0 k1 a0 a1 (wrap64 (x6_1 + 1)) (decide (t143 < 3))) = some (r1, r2) := by rw [if_neg (show ¬ (false = true) by decide)] at H; exact H
        clear H
        have H := H1
        clear H1
        have H' := Aside0.mk H
        clear H
        have p6 : 0 ≤ ((ji4) : Int) := of_decide_eq_true (by first|(with_reducible assumption) | assumption)
        have q6 : (ji4) < (a0.size : Int) := of_decide_eq_true (by first|(with_reducible assumption) | assumption)
        have hx6 := bt_at a0 (ji4)
        replace p6 := eq_true p6
        replace q6 := eq_true q6
        go_wp2_with (first|((with_reducible refine gate_callee (f := 42) rfl ?_); refine goesL_ (some 20) rfl rfl Tryz.func42 (by kernel_rfl) rfl #[.int .u8 (bt a0 (ji4))] rfl (by (try simp only [List.map_toArray, List.map_cons, List.map_nil]); first|done|(simp only [hji4]; rfl)|rfl|(simp only [List.length_drop, List.length_take]; rfl)) ?_; (with_reducible refine (gossamerref01_class.calls k1 (bt a0 (ji4)) t143 _ A7.out).mono ?_); rintro e w' ⟨rfl, ⟨nd, rfl⟩⟩; refine ⟨_, rfl, ?_⟩))
        go_roundg k1
        case measure => have := HK1.out; omega
        case rel => exact ⟨(wrap64 (x6_1 + 1)), (decide (t143 < 3)), (by first|rfl|(simp; done)|(simp [*]; done)), (by first|rfl|(simp; done)|(simp [*]; done)), H', ⟨by have := HK1.out; omega⟩, by repeat (first|exact Drawn0.refl _|apply Drawn0.step)⟩
    ·rw [if_neg c5] at H
     exact absurd H (by simp)
   ·rw [if_neg c3] at H
    have c3b0 : decide ((wrap64 (a1 + x6_1)) < (a0.size : Int)) = false := decide_eq_false c3
    clear c3
    simp only [Option.some.injEq, Prod.mk.injEq] at H
    obtain ⟨rfl, rfl⟩ := H
    go_wp2
    go_ret2
    exact ⟨by first|rfl|(simp; done)|(simp [*]; done), by repeat (first|exact Drawn0.refl _|apply Drawn0.step)⟩

end Go.Proofs.YthdkjfhpbigdpaaGreatDoor.Q

namespace Go.Proofs.YthdkjfhpbigdpaaGreatDoor.Q
open Go.RowKit Go.Proofs.YthdkjfhpbigdpaaGreatDoorW.PrintWords Go.Proofs.YthdkjfhpbigdpaaGreatDoorW.PrintLast Go.Proofs.YthdkjfhpbigdpaaGreatDoorW.PrintMore
attribute [local go_sem] max2_int min2_int max_two min_two max_three min_three max_four min_four
set_option linter.unusedVariables false
set_option linter.unusedSimpArgs false

mutual
def gossamerref01_sign.j0 : Nat → ByteArray → Int → Bool → Option (Int)
 | 0, _, _, _ => none
 | k + 1, x0, x1, x26 => if x26 = true then (some 2) else (gossamerref01_sign.l0 k x0 x1 0)
def gossamerref01_sign.l0 : Nat → ByteArray → Int → Int → Option (Int)
 | 0, _, _, _ => none
 | k + 1, x0, x1, x5 => if x5 < 13 then (if 0 ≤ x5 then (if 0 ≤ x1 then (if x1 < (x0.size : Int) then (if (bt (⟨#[92, 46, 40, 41, 61, 123, 125, 124, 43, 45, 42, 47, 60]⟩ : ByteArray) x5) = (bt x0 x1) then (some 1) else (gossamerref01_sign.l0 k x0 x1 (wrap64 (x5 + 1)))) else (none)) else (none)) else (none)) else (some 0)
end
def gossamerref01_sign.f (k : Nat) (a0 : ByteArray) (a1 : Int) : Option (Int) := if (wrap64 (a1 + 1)) < (a0.size : Int) then (if 0 ≤ a1 then (if a1 ≤ (wrap64 (a1 + 2)) then (if (wrap64 (a1 + 2)) ≤ (a0.size : Int) then (if (a0.extract (a1 : Int).toNat ((wrap64 (a1 + 2)) : Int).toNat).toList = ([45, 62] : List UInt8) then (gossamerref01_sign.j0 k a0 a1 true) else (gossamerref01_sign.j0 k a0 a1 ((a0.extract (a1 : Int).toNat ((wrap64 (a1 + 2)) : Int).toNat).toList == ([61, 61] : List UInt8)))) else (none)) else (none)) else (none)) else (gossamerref01_sign.j0 k a0 a1 false)
theorem gossamerref01_sign.mono_l : ∀ k, (∀ y0 y1 y2, LeO (gossamerref01_sign.j0 k y0 y1 y2) (gossamerref01_sign.j0 (k + 1) y0 y1 y2)) ∧ (∀ y0 y1 y2, LeO (gossamerref01_sign.l0 k y0 y1 y2) (gossamerref01_sign.l0 (k + 1) y0 y1 y2))
 | 0 => ⟨fun _ _ _ r h => by simp [gossamerref01_sign.j0] at h, fun _ _ _ r h => by simp [gossamerref01_sign.l0] at h⟩
 | k + 1 => by
  obtain ⟨ih0, ih1⟩ := gossamerref01_sign.mono_l k
  refine ⟨?_, ?_⟩
  ·intro y0 y1 y2
   unfold gossamerref01_sign.j0
   repeat' first
  |(with_reducible exact ih0 _ _ _)
  |(with_reducible exact ih1 _ _ _)
  |(with_reducible exact LeO.refl _)
  |(with_reducible exact LeO.none _)
  |(with_reducible refine LeO.ite ?_ ?_)
  |(with_reducible refine LeO.bind ?_ (fun _ => ?_))
  |exact ih0 _ _ _
  |exact ih1 _ _ _
  |exact LeO.none _
  |refine LeO.ite ?_ ?_
  |refine LeO.bind ?_ (fun _ => ?_)
  ·intro y0 y1 y2
   unfold gossamerref01_sign.l0
   repeat' first
  |(with_reducible exact ih0 _ _ _)
  |(with_reducible exact ih1 _ _ _)
  |(with_reducible exact LeO.refl _)
  |(with_reducible exact LeO.none _)
  |(with_reducible refine LeO.ite ?_ ?_)
  |(with_reducible refine LeO.bind ?_ (fun _ => ?_))
  |exact ih0 _ _ _
  |exact ih1 _ _ _
  |exact LeO.none _
  |refine LeO.ite ?_ ?_
  |refine LeO.bind ?_ (fun _ => ?_)
theorem gossamerref01_sign.mono : ∀ a0 a1 k, LeO (gossamerref01_sign.f k a0 a1) (gossamerref01_sign.f (k + 1) a0 a1) := by
 intro a0 a1 k
 obtain ⟨ih0, ih1⟩ := gossamerref01_sign.mono_l k
 unfold gossamerref01_sign.f
 repeat' first
  |(with_reducible exact ih0 _ _ _)
  |(with_reducible exact ih1 _ _ _)
  |(with_reducible exact LeO.refl _)
  |(with_reducible exact LeO.none _)
  |(with_reducible refine LeO.ite ?_ ?_)
  |(with_reducible refine LeO.bind ?_ (fun _ => ?_))
  |exact ih0 _ _ _
  |exact ih1 _ _ _
  |exact LeO.none _
  |refine LeO.ite ?_ ?_
  |refine LeO.bind ?_ (fun _ => ?_)
set_option maxHeartbeats 8000000 in
set_option maxRecDepth 100000 in
theorem gossamerref01_sign.calls (k : Nat) (a0 : ByteArray) (a1 : Int) (r : Int) (w : World) (h : gossamerref01_sign.f k a0 a1 = some r) :
  Calls Tryz.prog 41 #[.string a0, .int .i64 a1] w fun e w' => e = .returned (.int .i64 r) ∧ Drawn0 w w' := by
 have H : (if (wrap64 (a1 + 1)) < (a0.size : Int) then (if 0 ≤ a1 then (if a1 ≤ (wrap64 (a1 + 2)) then (if (wrap64 (a1 + 2)) ≤ (a0.size : Int) then (if (a0.extract (a1 : Int).toNat ((wrap64 (a1 + 2)) : Int).toNat).toList = ([45, 62] : List UInt8) then (gossamerref01_sign.j0 k a0 a1 true) else (gossamerref01_sign.j0 k a0 a1 ((a0.extract (a1 : Int).toNat ((wrap64 (a1 + 2)) : Int).toNat).toList == ([61, 61] : List UInt8)))) else (none)) else (none)) else (none)) else (gossamerref01_sign.j0 k a0 a1 false)) = some r := h
 clear h
 have HC3 := Aside0.mk H
 clear H
 go_enter Tryz.func41, Tryz.ntmps41
 go_upto_region 1 with (fail)
 repeat (go_quiet (fail); go_upto_region 1 with (fail))
 go_cut [26] (fun v26 wc => ∃ (kq : Nat) (x26_2 : Bool), v26 = .bool x26_2 ∧ Aside0 (gossamerref01_sign.j0 kq a0 a1 x26_2 = some r) ∧ Aside0 (kq ≤ k) ∧ Drawn0 w wc)
 case first =>
  have H := HC3.out
  clear HC3
  by_cases c4 : (wrap64 (a1 + 1)) < (a0.size : Int)
  ·rw [if_pos c4] at H
   have c4b0 : decide ((wrap64 (a1 + 1)) < (a0.size : Int)) = true := decide_eq_true c4
   clear c4
   (first|rw [c4b0]|(simp only [i64_w, i32_w]; rw [c4b0]) | skip)
   by_cases c5 : 0 ≤ a1
   ·rw [if_pos c5] at H
    have c5b0 := eq_true c5
    have c5b1 : decide (0 ≤ a1) = true := decide_eq_true c5
    clear c5
    by_cases c6 : a1 ≤ (wrap64 (a1 + 2))
    ·rw [if_pos c6] at H
     have c6b0 := eq_true c6
     have c6b1 : decide (a1 ≤ (wrap64 (a1 + 2))) = true := decide_eq_true c6
     by_cases c7 : (wrap64 (a1 + 2)) ≤ (a0.size : Int)
     ·rw [if_pos c7] at H
      have c7b0 := eq_true c7
      have c7b1 : decide ((wrap64 (a1 + 2)) ≤ (a0.size : Int)) = true := decide_eq_true c7
      by_cases c8 : (a0.extract (a1 : Int).toNat ((wrap64 (a1 + 2)) : Int).toNat).toList = ([45, 62] : List UInt8)
      ·rw [if_pos c8] at H
       have c8b0 : ((a0.extract (a1 : Int).toNat ((wrap64 (a1 + 2)) : Int).toNat).toList == ([45, 62] : List UInt8)) = true := beq_iff_eq.mpr c8
       have c8b1 : ((a0.extract (a1 : Int).toNat ((wrap64 (a1 + 2)) : Int).toNat).toList != ([45, 62] : List UInt8)) = false := bne_eq_false_iff_eq.mpr c8
       clear c8
       have H' := Aside0.mk H
       clear H
       go_wp2
       repeat (go_quiet (fail); try go_wp2)
       go_meet
       case rel => exact ⟨_, (true), (by first|rfl|(simp; done)|(simp [*]; done)), H', ⟨by first | omega|exact Nat.le_refl _⟩, by repeat (first|exact Drawn0.refl _|apply Drawn0.step)⟩
      ·rw [if_neg c8] at H
       have c8b0 : ((a0.extract (a1 : Int).toNat ((wrap64 (a1 + 2)) : Int).toNat).toList == ([45, 62] : List UInt8)) = false := beq_eq_false_iff_ne.mpr c8
       have c8b1 : ((a0.extract (a1 : Int).toNat ((wrap64 (a1 + 2)) : Int).toNat).toList != ([45, 62] : List UInt8)) = true := bne_iff_ne.mpr c8
       have c9b0 := eq_true (of_decide_eq_true (by first|(with_reducible assumption) | assumption) : 0 ≤ a1)
       have c10b0 := eq_true (of_decide_eq_true (by first|(with_reducible assumption) | assumption) : a1 ≤ (wrap64 (a1 + 2)))
       have c11b0 := eq_true (of_decide_eq_true (by first|(with_reducible assumption) | assumption) : (wrap64 (a1 + 2)) ≤ (a0.size : Int))
       have H' := Aside0.mk H
       clear H
       go_wp2
       repeat (go_quiet (fail); try go_wp2)
       go_meet
       case rel => exact ⟨_, (((a0.extract (a1 : Int).toNat ((wrap64 (a1 + 2)) : Int).toNat).toList == ([61, 61] : List UInt8))), (by first|rfl|(simp; done)|(simp [*]; done)), H', ⟨by first | omega|exact Nat.le_refl _⟩, by repeat (first|exact Drawn0.refl _|apply Drawn0.step)⟩
     ·rw [if_neg c7] at H
      exact absurd H (by simp)
    ·rw [if_neg c6] at H
     exact absurd H (by simp)
   ·rw [if_neg c5] at H
    exact absurd H (by simp)
  ·rw [if_neg c4] at H
   have c4b0 : decide ((wrap64 (a1 + 1)) < (a0.size : Int)) = false := decide_eq_false c4
   clear c4
   (first|rw [c4b0]|(simp only [i64_w, i32_w]; rw [c4b0]) | skip)
   have H' := Aside0.mk H
   clear H
   go_wp2
   repeat (go_quiet (fail); try go_wp2)
   go_meet
   case rel => exact ⟨_, (false), (by first|rfl|(simp; done)|(simp [*]; done)), H', ⟨by first | omega|exact Nat.le_refl _⟩, by repeat (first|exact Drawn0.refl _|apply Drawn0.step)⟩
 case rest =>
  clear HC3
  try clear c1
  try clear p2
  try clear c4
  try clear c4b0
  try clear c5
  try clear c5b0
  try clear c5b1
  try clear c6
  try clear c6b0
  try clear c6b1
  try clear p6
  try clear c7
  try clear c7b0
  try clear c7b1
  try clear c8
  try clear c8b0
  try clear c8b1
  try clear c9
  try clear c9b0
  try clear c10
  try clear c10b0
  try clear c11
  try clear c11b0
  obtain ⟨kq, x26_2, rfl, HA, HJ2, ⟨mc2, rfl⟩⟩ := hcut
  cases kq with
  | zero => exact absurd HA.out (by simp [gossamerref01_sign.j0])
  | succ kj2 =>
   have H := HA.out
   clear HA
   simp only [gossamerref01_sign.j0] at H
   by_cases c12 : x26_2 = true
   ·subst c12
    have H1 : (some 2) = some r := by rw [if_pos rfl] at H; exact H
    clear H
    have H := H1
    clear H1
    obtain rfl := Option.some.inj H
    go_wp2
    repeat (go_quiet (fail); try go_wp2)
    go_ret
    exact ⟨by first|rfl|(simp; done)|(simp [*]; done), by repeat (first|exact Drawn0.refl _|apply Drawn0.step)⟩
   ·replace c12 := Bool.eq_false_iff.mpr c12
    subst c12
    have H1 : (gossamerref01_sign.l0 kj2 a0 a1 0) = some r := by rw [if_neg (show ¬ (false = true) by decide)] at H; exact H
    clear H
    have H := H1
    clear H1
    have H' := Aside0.mk H
    clear H
    go_wp2
    repeat (go_quiet (fail); try go_wp2)
    go_loopg [5] kj2 (fun kq v5 w' => ∃ (x5_2 : Int), v5 = .int .i64 x5_2 ∧ Aside0 (gossamerref01_sign.l0 kq a0 a1 x5_2 = some r) ∧ Aside0 (kq ≤ kj2) ∧ Drawn0 w w')
    case atStart => exact ⟨(0), (by first|rfl|(simp; done)|(simp [*]; done)), H', ⟨Nat.le_refl _⟩, by repeat (first|exact Drawn0.refl _|apply Drawn0.step)⟩
    case round =>
     clear H'
     try clear c1
     try clear c2
     try clear p2
     try clear c4
     try clear c4b0
     try clear c5
     try clear c5b0
     try clear c5b1
     try clear c6
     try clear c6b0
     try clear c6b1
     try clear p6
     try clear c7
     try clear c7b0
     try clear c7b1
     try clear c8
     try clear c8b0
     try clear c8b1
     try clear c9
     try clear c9b0
     try clear c10
     try clear c10b0
     try clear c11
     try clear c11b0
     try clear c12
     try clear p2
     try clear p6
     obtain ⟨x5_2, rfl, HA, HK2, ⟨m2, rfl⟩⟩ := hrel
     cases gk with
     | zero => exact absurd HA.out (by simp [gossamerref01_sign.l0])
     | succ k2 =>
      have H := HA.out
      clear HA
      simp only [gossamerref01_sign.l0] at H
      by_cases c13 : x5_2 < 13
      ·rw [if_pos c13] at H
       have c13b0 : decide (x5_2 < 13) = true := decide_eq_true c13
       clear c13
       by_cases c14 : 0 ≤ x5_2
       ·rw [if_pos c14] at H
        have c14b0 : decide (0 ≤ x5_2) = true := decide_eq_true c14
        clear c14
        by_cases c16 : 0 ≤ a1
        ·rw [if_pos c16] at H
         have c16b0 : decide (0 ≤ a1) = true := decide_eq_true c16
         clear c16
         by_cases c17 : a1 < (a0.size : Int)
         ·rw [if_pos c17] at H
          have c17b0 : decide (a1 < (a0.size : Int)) = true := decide_eq_true c17
          clear c17
          by_cases c19 : (bt (⟨#[92, 46, 40, 41, 61, 123, 125, 124, 43, 45, 42, 47, 60]⟩ : ByteArray) x5_2) = (bt a0 a1)
          ·rw [if_pos c19] at H
           have c19b0 : ((bt (⟨#[92, 46, 40, 41, 61, 123, 125, 124, 43, 45, 42, 47, 60]⟩ : ByteArray) x5_2) == (bt a0 a1)) = true := beq_iff_eq.mpr c19
           have c19b1 : ((bt (⟨#[92, 46, 40, 41, 61, 123, 125, 124, 43, 45, 42, 47, 60]⟩ : ByteArray) x5_2) != (bt a0 a1)) = false := bne_eq_false_iff_eq.mpr c19
           clear c19
           obtain rfl := Option.some.inj H
           have p15 : 0 ≤ (x5_2 : Int) := of_decide_eq_true (by first|(with_reducible assumption) | assumption)
           have q15 : x5_2 < (13 : Int) := of_decide_eq_true (by first|(with_reducible assumption) | assumption)
           have hx15 := bt_at (⟨#[92, 46, 40, 41, 61, 123, 125, 124, 43, 45, 42, 47, 60]⟩ : ByteArray) x5_2
           replace p15 := eq_true p15
           replace q15 := eq_true q15
           have p18 : 0 ≤ (a1 : Int) := of_decide_eq_true (by first|(with_reducible assumption) | assumption)
           have q18 : a1 < (a0.size : Int) := of_decide_eq_true (by first|(with_reducible assumption) | assumption)
           have hx18 := bt_at a0 a1
           replace p18 := eq_true p18
           replace q18 := eq_true q18
           go_wp2
           repeat (go_quiet (fail); try go_wp2)
           go_ret
           exact ⟨by first|rfl|(simp; done)|(simp [*]; done), by repeat (first|exact Drawn0.refl _|apply Drawn0.step)⟩
          ·rw [if_neg c19] at H
           have c19b0 : ((bt (⟨#[92, 46, 40, 41, 61, 123, 125, 124, 43, 45, 42, 47, 60]⟩ : ByteArray) x5_2) == (bt a0 a1)) = false := beq_eq_false_iff_ne.mpr c19
           have c19b1 : ((bt (⟨#[92, 46, 40, 41, 61, 123, 125, 124, 43, 45, 42, 47, 60]⟩ : ByteArray) x5_2) != (bt a0 a1)) = true := bne_iff_ne.mpr c19
           have H' := Aside0.mk H
           clear H
           have p15 : 0 ≤ (x5_2 : Int) := of_decide_eq_true (by first|(with_reducible assumption) | assumption)
           have q15 : x5_2 < (13 : Int) := of_decide_eq_true (by first|(with_reducible assumption) | assumption)
           have hx15 := bt_at (⟨#[92, 46, 40, 41, 61, 123, 125, 124, 43, 45, 42, 47, 60]⟩ : ByteArray) x5_2
           replace p15 := eq_true p15
           replace q15 := eq_true q15
           have p18 : 0 ≤ (a1 : Int) := of_decide_eq_true (by first|(with_reducible assumption) | assumption)
           have q18 : a1 < (a0.size : Int) := of_decide_eq_true (by first|(with_reducible assumption) | assumption)
           have hx18 := bt_at a0 a1
           replace p18 := eq_true p18
           replace q18 := eq_true q18
           go_wp2
           repeat (go_quiet (fail); try go_wp2)
           go_roundg k2
           case measure => have := HJ2.out; have := HK2.out; omega
           case rel => exact ⟨(wrap64 (x5_2 + 1)), (by first|rfl|(simp; done)|(simp [*]; done)), H', ⟨by have := HJ2.out; have := HK2.out; omega⟩, by repeat (first|exact Drawn0.refl _|apply Drawn0.step)⟩
         ·rw [if_neg c17] at H
          exact absurd H (by simp)
        ·rw [if_neg c16] at H
         exact absurd H (by simp)
       ·rw [if_neg c14] at H
        exact absurd H (by simp)
      ·rw [if_neg c13] at H
       have c13b0 : decide (x5_2 < 13) = false := decide_eq_false c13
       clear c13
       obtain rfl := Option.some.inj H
       go_wp2
       repeat (go_quiet (fail); try go_wp2)
       go_ret
       exact ⟨by first|rfl|(simp; done)|(simp [*]; done), by repeat (first|exact Drawn0.refl _|apply Drawn0.step)⟩

end Go.Proofs.YthdkjfhpbigdpaaGreatDoor.Q

namespace Go.Proofs.YthdkjfhpbigdpaaGreatDoor.Q
open Go.RowKit Go.Proofs.YthdkjfhpbigdpaaGreatDoorW.PrintWords Go.Proofs.YthdkjfhpbigdpaaGreatDoorW.PrintLast Go.Proofs.YthdkjfhpbigdpaaGreatDoorW.PrintMore
attribute [local go_sem] max2_int min2_int max_two min_two max_three min_three max_four min_four
set_option linter.unusedVariables false
set_option linter.unusedSimpArgs false

def gossamerref01_number.l0 : Nat → ByteArray → Int → Int → Option (Int)
 | 0, _, _, _ => none
 | k + 1, x0, x3, x4 => if x4 < (x0.size : Int) then (if 0 ≤ x4 then (gossamerref01_number.l0 k x0 (wrap64 ((wrap64 ((wrap64 (10 * x3)) + (wrap64 (bt x0 x4)))) - 48)) (wrap64 (x4 + 1))) else (none)) else (some x3)
def gossamerref01_number.f (k : Nat) (a0 : ByteArray) : Option (Int) := gossamerref01_number.l0 k a0 0 0
theorem gossamerref01_number.mono_l : ∀ k, (∀ y0 y1 y2, LeO (gossamerref01_number.l0 k y0 y1 y2) (gossamerref01_number.l0 (k + 1) y0 y1 y2))
 | 0 => fun _ _ _ r h => by simp [gossamerref01_number.l0] at h
 | k + 1 => by
  have ih0 := gossamerref01_number.mono_l k
  ·intro y0 y1 y2
   unfold gossamerref01_number.l0
   repeat' first
  |(with_reducible exact ih0 _ _ _)
  |(with_reducible exact LeO.refl _)
  |(with_reducible exact LeO.none _)
  |(with_reducible refine LeO.ite ?_ ?_)
  |(with_reducible refine LeO.bind ?_ (fun _ => ?_))
  |exact ih0 _ _ _
  |exact LeO.none _
  |refine LeO.ite ?_ ?_
  |refine LeO.bind ?_ (fun _ => ?_)
theorem gossamerref01_number.mono : ∀ a0 k, LeO (gossamerref01_number.f k a0) (gossamerref01_number.f (k + 1) a0) := by
 intro a0 k
 have ih0 := gossamerref01_number.mono_l k
 unfold gossamerref01_number.f
 repeat' first
  |(with_reducible exact ih0 _ _ _)
  |(with_reducible exact LeO.refl _)
  |(with_reducible exact LeO.none _)
  |(with_reducible refine LeO.ite ?_ ?_)
  |(with_reducible refine LeO.bind ?_ (fun _ => ?_))
  |exact ih0 _ _ _
  |exact LeO.none _
  |refine LeO.ite ?_ ?_
  |refine LeO.bind ?_ (fun _ => ?_)
set_option maxHeartbeats 8000000 in
set_option maxRecDepth 100000 in
theorem gossamerref01_number.calls (k : Nat) (a0 : ByteArray) (r : Int) (w : World) (h : gossamerref01_number.f k a0 = some r) :
  Calls Tryz.prog 43 #[.string a0] w fun e w' => e = .returned (.int .i64 r) ∧ Drawn0 w w' := by
 have H : (gossamerref01_number.l0 k a0 0 0) = some r := h
 clear h
 have H' := Aside0.mk H
 clear H
 go_enter Tryz.func43, Tryz.ntmps43
 go_wp2
 go_loopg [3, 4] k (fun kq v3 v4 w' => ∃ (x3_1 : Int) (x4_1 : Int), v3 = .int .i64 x3_1 ∧ v4 = .int .i64 x4_1 ∧ Aside0 (gossamerref01_number.l0 kq a0 x3_1 x4_1 = some r) ∧ Aside0 (kq ≤ k) ∧ Drawn0 w w')
 case atStart => exact ⟨(0), (0), (by first|rfl|(simp; done)|(simp [*]; done)), (by first|rfl|(simp; done)|(simp [*]; done)), H', ⟨Nat.le_refl _⟩, by repeat (first|exact Drawn0.refl _|apply Drawn0.step)⟩
 case round =>
  clear H'
  obtain ⟨x3_1, x4_1, rfl, rfl, HA, HK1, ⟨m1, rfl⟩⟩ := hrel
  cases gk with
  | zero => exact absurd HA.out (by simp [gossamerref01_number.l0])
  | succ k1 =>
   have H := HA.out
   clear HA
   simp only [gossamerref01_number.l0] at H
   by_cases c2 : x4_1 < (a0.size : Int)
   ·rw [if_pos c2] at H
    have c2b0 : decide (x4_1 < (a0.size : Int)) = true := decide_eq_true c2
    clear c2
    by_cases c3 : 0 ≤ x4_1
    ·rw [if_pos c3] at H
     have c3b0 : decide (0 ≤ x4_1) = true := decide_eq_true c3
     clear c3
     have H' := Aside0.mk H
     clear H
     have p4 : 0 ≤ (x4_1 : Int) := of_decide_eq_true (by first|(with_reducible assumption) | assumption)
     have q4 : x4_1 < (a0.size : Int) := of_decide_eq_true (by first|(with_reducible assumption) | assumption)
     have hx4 := bt_at a0 x4_1
     replace p4 := eq_true p4
     replace q4 := eq_true q4
     go_wp2
     go_roundg k1
     case measure => have := HK1.out; omega
     case rel => exact ⟨(wrap64 ((wrap64 ((wrap64 (10 * x3_1)) + (wrap64 (bt a0 x4_1)))) - 48)), (wrap64 (x4_1 + 1)), (by first|rfl|(simp; done)|(simp [*]; done)), (by first|rfl|(simp; done)|(simp [*]; done)), H', ⟨by have := HK1.out; omega⟩, by repeat (first|exact Drawn0.refl _|apply Drawn0.step)⟩
    ·rw [if_neg c3] at H
     exact absurd H (by simp)
   ·rw [if_neg c2] at H
    have c2b0 : decide (x4_1 < (a0.size : Int)) = false := decide_eq_false c2
    clear c2
    obtain rfl := Option.some.inj H
    go_wp2
    go_ret
    exact ⟨by first|rfl|(simp; done)|(simp [*]; done), by repeat (first|exact Drawn0.refl _|apply Drawn0.step)⟩

end Go.Proofs.YthdkjfhpbigdpaaGreatDoor.Q

namespace Go.Proofs.YthdkjfhpbigdpaaGreatDoor.Q
open Go.RowKit Go.Proofs.YthdkjfhpbigdpaaGreatDoorW.PrintWords Go.Proofs.YthdkjfhpbigdpaaGreatDoorW.PrintLast Go.Proofs.YthdkjfhpbigdpaaGreatDoorW.PrintMore
attribute [local go_sem] max2_int min2_int max_two min_two max_three min_three max_four min_four
set_option linter.unusedVariables false
set_option linter.unusedSimpArgs false

def gossamerref01_Word.f (a0 : ByteArray) : Option (Bool) := if a0.toList = ([108, 101, 116] : List UInt8) then (some true) else (if a0.toList = ([108, 101, 116, 114, 101, 99] : List UInt8) then (some true) else (if a0.toList = ([105, 110] : List UInt8) then (some true) else (if a0.toList = ([99, 97, 115, 101] : List UInt8) then (some true) else (some (a0.toList == ([111, 102] : List UInt8))))))
set_option maxHeartbeats 8000000 in
set_option maxRecDepth 100000 in
theorem gossamerref01_Word.calls (a0 : ByteArray) (r : Bool) (w : World) (h : gossamerref01_Word.f a0 = some r) :
  Calls Tryz.prog 44 #[.string a0] w fun e w' => e = .returned (.bool r) ∧ Drawn0 w w' := by
 have H : (if a0.toList = ([108, 101, 116] : List UInt8) then (some true) else (if a0.toList = ([108, 101, 116, 114, 101, 99] : List UInt8) then (some true) else (if a0.toList = ([105, 110] : List UInt8) then (some true) else (if a0.toList = ([99, 97, 115, 101] : List UInt8) then (some true) else (some (a0.toList == ([111, 102] : List UInt8))))))) = some r := h
 clear h
 by_cases c2 : a0.toList = ([108, 101, 116] : List UInt8)
 ·rw [if_pos c2] at H
  have c2b0 : (a0.toList == ([108, 101, 116] : List UInt8)) = true := beq_iff_eq.mpr c2
  have c2b1 : (a0.toList != ([108, 101, 116] : List UInt8)) = false := bne_eq_false_iff_eq.mpr c2
  clear c2
  obtain rfl := Option.some.inj H
  go_enter Tryz.func44, Tryz.ntmps44
  go_wp2
  go_ret
  exact ⟨by first|rfl|(simp; done)|(simp [*]; done), by repeat (first|exact Drawn0.refl _|apply Drawn0.step)⟩
 ·rw [if_neg c2] at H
  have c2b0 : (a0.toList == ([108, 101, 116] : List UInt8)) = false := beq_eq_false_iff_ne.mpr c2
  have c2b1 : (a0.toList != ([108, 101, 116] : List UInt8)) = true := bne_iff_ne.mpr c2
  by_cases c3 : a0.toList = ([108, 101, 116, 114, 101, 99] : List UInt8)
  ·rw [if_pos c3] at H
   have c3b0 : (a0.toList == ([108, 101, 116, 114, 101, 99] : List UInt8)) = true := beq_iff_eq.mpr c3
   have c3b1 : (a0.toList != ([108, 101, 116, 114, 101, 99] : List UInt8)) = false := bne_eq_false_iff_eq.mpr c3
   clear c3
   obtain rfl := Option.some.inj H
   go_enter Tryz.func44, Tryz.ntmps44
   go_wp2
   go_ret
   exact ⟨by first|rfl|(simp; done)|(simp [*]; done), by repeat (first|exact Drawn0.refl _|apply Drawn0.step)⟩
  ·rw [if_neg c3] at H
   have c3b0 : (a0.toList == ([108, 101, 116, 114, 101, 99] : List UInt8)) = false := beq_eq_false_iff_ne.mpr c3
   have c3b1 : (a0.toList != ([108, 101, 116, 114, 101, 99] : List UInt8)) = true := bne_iff_ne.mpr c3
   by_cases c4 : a0.toList = ([105, 110] : List UInt8)
   ·rw [if_pos c4] at H
    have c4b0 : (a0.toList == ([105, 110] : List UInt8)) = true := beq_iff_eq.mpr c4
    have c4b1 : (a0.toList != ([105, 110] : List UInt8)) = false := bne_eq_false_iff_eq.mpr c4
    clear c4
    obtain rfl := Option.some.inj H
    go_enter Tryz.func44, Tryz.ntmps44
    go_wp2
    go_ret
    exact ⟨by first|rfl|(simp; done)|(simp [*]; done), by repeat (first|exact Drawn0.refl _|apply Drawn0.step)⟩
   ·rw [if_neg c4] at H
    have c4b0 : (a0.toList == ([105, 110] : List UInt8)) = false := beq_eq_false_iff_ne.mpr c4
    have c4b1 : (a0.toList != ([105, 110] : List UInt8)) = true := bne_iff_ne.mpr c4
    by_cases c5 : a0.toList = ([99, 97, 115, 101] : List UInt8)
    ·rw [if_pos c5] at H
     have c5b0 : (a0.toList == ([99, 97, 115, 101] : List UInt8)) = true := beq_iff_eq.mpr c5
     have c5b1 : (a0.toList != ([99, 97, 115, 101] : List UInt8)) = false := bne_eq_false_iff_eq.mpr c5
     clear c5
     obtain rfl := Option.some.inj H
     go_enter Tryz.func44, Tryz.ntmps44
     go_wp2
     go_ret
     exact ⟨by first|rfl|(simp; done)|(simp [*]; done), by repeat (first|exact Drawn0.refl _|apply Drawn0.step)⟩
    ·rw [if_neg c5] at H
     have c5b0 : (a0.toList == ([99, 97, 115, 101] : List UInt8)) = false := beq_eq_false_iff_ne.mpr c5
     have c5b1 : (a0.toList != ([99, 97, 115, 101] : List UInt8)) = true := bne_iff_ne.mpr c5
     obtain rfl := Option.some.inj H
     go_enter Tryz.func44, Tryz.ntmps44
     go_wp2
     go_ret
     exact ⟨by first|rfl|(simp; done)|(simp [*]; done), by repeat (first|exact Drawn0.refl _|apply Drawn0.step)⟩

end Go.Proofs.YthdkjfhpbigdpaaGreatDoor.Q
