/- The walks of package lex: what each of its functions comes to, in the words of HLex. -/
import Derived.Test.YthdkjfhpbigdpaaDoorHLexLib
import Derived.Test.YthdkjfhpbigdpaaDoorHShelf
import Derived.Below
import Derived.OwnWalk
import Derived.Tactics
import Derived.Tactics2
import Derived.Laws.Slices
import Derived.WalkKit
import Derived.KernelRfl
import Derived.Deep.LoopGhost
import Derived.Deep.QuietTactic
import Derived.BigQuiet
import Derived.WideLaws
import Derived.Outline
import Derived.Laws.Rows
import Derived.Test.YthdkjfhpbigdpaaDoorWMore
import Derived.WalkSmall
namespace Go.Proofs.YthdkjfhpbigdpaaDoor.HLexC
open Go Go.RowKit Go.Lib Go.Proofs Go.Proofs.YthdkjfhpbigdpaaDoorW.PrintWords Go.Proofs.YthdkjfhpbigdpaaDoorW.PrintLast Go.Proofs.YthdkjfhpbigdpaaDoorW.PrintMore
set_option linter.unusedVariables false
set_option linter.unusedSimpArgs false

theorem bcell {W w1 : World} (hb : Below W.heap.size W w1) : (∀ b o, b < W.heap.size → w1.cell? ⟨b, o, none⟩ = W.cell? ⟨b, o, none⟩) ∧ (∀ b o, b < W.heap.size → w1.frozen? ⟨b, o, none⟩ = W.frozen? ⟨b, o, none⟩) :=
  ⟨fun b o h => hb.cell (p := ⟨b, o, none⟩) h, fun b o h => hb.frozen (p := ⟨b, o, none⟩) h⟩

set_option maxHeartbeats 1000000 in
theorem lower_any (c : Int) (w : World) (h0 : 0 ≤ c) (h1 : c ≤ 255) : Calls Tryd.prog 62 #[.int .u8 c] w fun e w' => e = .returned (.bool (decide (97 ≤ c) && decide (c ≤ 122))) ∧ w = w' := by
  by_cases h : 97 ≤ c <;> by_cases h' : c ≤ 122
  all_goals
    go_enter Tryd.func62, Tryd.ntmps62
    go_wp2
    go_ret
    exact ⟨by simp [h, h'], rfl⟩
set_option maxHeartbeats 1000000 in
theorem upper_any (c : Int) (w : World) (h0 : 0 ≤ c) (h1 : c ≤ 255) : Calls Tryd.prog 63 #[.int .u8 c] w fun e w' => e = .returned (.bool (decide (65 ≤ c) && decide (c ≤ 90))) ∧ w = w' := by
  by_cases h : 65 ≤ c <;> by_cases h' : c ≤ 90
  all_goals
    go_enter Tryd.func63, Tryd.ntmps63
    go_wp2
    go_ret
    exact ⟨by simp [h, h'], rfl⟩
set_option maxHeartbeats 1000000 in
theorem digit_any (c : Int) (w : World) (h0 : 0 ≤ c) (h1 : c ≤ 255) : Calls Tryd.prog 64 #[.int .u8 c] w fun e w' => e = .returned (.bool (decide (48 ≤ c) && decide (c ≤ 57))) ∧ w = w' := by
  by_cases h : 48 ≤ c <;> by_cases h' : c ≤ 57
  all_goals
    go_enter Tryd.func64, Tryd.ntmps64
    go_wp2
    go_ret
    exact ⟨by simp [h, h'], rfl⟩

def wordlyI (c : Int) : Bool := decide (97 ≤ c) && decide (c ≤ 122) || (decide (65 ≤ c) && decide (c ≤ 90)) || (decide (48 ≤ c) && decide (c ≤ 57))
set_option maxHeartbeats 2000000 in
theorem wordly_any (c : Int) (w : World) (h0 : 0 ≤ c) (h1 : c ≤ 255) : Calls Tryd.prog 52 #[.int .u8 c] w fun e w' => e = .returned (.bool (wordlyI c)) ∧ w = w' := by
  unfold wordlyI
  cases hl : (decide (97 ≤ c) && decide (c ≤ 122)) <;> cases hu : (decide (65 ≤ c) && decide (c ≤ 90)) <;> cases hd : (decide (48 ≤ c) && decide (c ≤ 57))
  all_goals
    have HL := Lib.hid hl; have HU := Lib.hid hu; have HD := Lib.hid hd
    clear hl hu hd
    go_enter Tryd.func52, Tryd.ntmps52
    go_wp2_with (first | (go_at_call 62; refine (lower_any _ _ h0 h1).mono ?_; rintro e w' ⟨rfl, rfl⟩; rw [HL.out]) | (go_at_call 63; refine (upper_any _ _ h0 h1).mono ?_; rintro e w' ⟨rfl, rfl⟩; rw [HU.out]) | (go_at_call 64; refine (digit_any _ _ h0 h1).mono ?_; rintro e w' ⟨rfl, rfl⟩; rw [HD.out]))
    go_ret
    exact ⟨by simp, rfl⟩

set_option maxHeartbeats 1000000 in
theorem pRun_pays (w : World) : PredAt Tryd.prog 51 #[] encR HLex.pRun w := fun W r _ => by
  unfold FnGives
  by_cases h0 : 127 < r
  · go_enter Tryd.func51, Tryd.ntmps51
    have z0 : decide ((127 : Int) < (r : Int)) = true := decide_eq_true (by omega)
    go_wp2
    go_ret
    exact ⟨by simp [HLex.pRun, h0], 0, rfl⟩
  · have z0 : decide ((127 : Int) < (r : Int)) = false := decide_eq_false (by omega)
    have z1 : (0 : Int) ≤ (r : Int) := by omega
    have z2 : (r : Int) ≤ 255 := by omega
    cases hw : wordlyI (r : Int)
    all_goals
      have HW := Lib.hid hw
      clear hw
      go_enter Tryd.func51, Tryd.ntmps51
      go_wp2_with (go_at_call 52; refine (wordly_any _ _ z1 z2).mono ?_; rintro e w' ⟨rfl, rfl⟩; rw [HW.out])
      go_ret
      refine ⟨?_, 0, rfl⟩
      have := HW.out
      unfold wordlyI at this
      congr 2
      unfold HLex.pRun
      have e0 : decide (127 < r) = false := by simp; omega
      rw [e0, Bool.false_or]
      have c1 : ∀ a : Nat, decide ((a : Int) ≤ (r : Int)) = decide (a ≤ r) := fun a => by simp
      have c2 : ∀ a : Nat, decide ((r : Int) ≤ (a : Int)) = decide (r ≤ a) := fun a => by simp
      rw [show (97 : Int) = ((97 : Nat) : Int) from rfl, show (122 : Int) = ((122 : Nat) : Int) from rfl, show (65 : Int) = ((65 : Nat) : Int) from rfl, show (90 : Int) = ((90 : Nat) : Int) from rfl, show (48 : Int) = ((48 : Nat) : Int) from rfl, show (57 : Int) = ((57 : Nat) : Int) from rfl] at this
      simp only [c1, c2] at this
      rw [this]
      rfl

set_option maxHeartbeats 1000000 in
theorem pBig_pays (w : World) : PredAt Tryd.prog 66 #[] encR HLex.pBig w := fun W r _ => by
  unfold FnGives
  go_enter Tryd.func66, Tryd.ntmps66
  go_wp2
  go_ret
  exact ⟨by simp [HLex.pBig]; omega, 0, rfl⟩

theorem enters_first1 : ∀ args w, (callFunc 51 args).run Tryd.prog w = .ok (.enter 51 args) w := enters_of Tryd.func51 (by kernel_rfl) rfl
theorem enters_named1 : ∀ args w, (callFunc 66 args).run Tryd.prog w = .ok (.enter 66 args) w := enters_of Tryd.func66 (by kernel_rfl) rfl

theorem indexRun_any (s : ByteArray) (w : World) :
    Calls Tryd.prog 50 #[.string s, .func (.func 51) #[] #[]] w fun e w' => e = .returned (.int .i64 (Lib.idxFunc HLex.pRun true s)) ∧ Below w.heap.size w w' :=
  Tryd.strings_IndexFunc 51 #[] enters_first1 HLex.pRun s w (pRun_pays w)
theorem containsBig_any (s : ByteArray) (w : World) :
    Calls Tryd.prog 65 #[.string s, .func (.func 66) #[] #[]] w fun e w' => e = .returned (.bool (s.data.toList.any (fun c => decide (57 < c.toNat)))) ∧ Below w.heap.size w w' := by
  have h := Tryd.strings_ContainsFunc 66 #[] enters_named1 HLex.pBig s w (pBig_pays w)
  rw [HLex.idx_big] at h
  exact h

def wordsB : List ByteArray := [⟨#[108, 101, 116]⟩, ⟨#[108, 101, 116, 114, 101, 99]⟩, ⟨#[105, 110]⟩, ⟨#[99, 97, 115, 101]⟩, ⟨#[111, 102]⟩]
theorem bytes_eq_iff (a b : ByteArray) : a = b ↔ a.data.toList = b.data.toList := ⟨fun h => by rw [h], fun h => by
  cases a; cases b; congr 1; exact Array.toList_inj.1 h⟩
theorem containsWords (s : ByteArray) : Lib.containsS (wordsB.take 5) s = HLex.isWord s.data.toList := by
  rw [Bool.eq_iff_iff, Lib.containsS_iff]
  unfold HLex.isWord HLex.words wordsB
  simp [bytes_eq_iff]
theorem wordCells (w : World) : ∀ j, j < wordsB.length → (w.alloc (Obj.cells #[Value.string { data := #[108, 101, 116] }, Value.string { data := #[108, 101, 116, 114, 101, 99] }, Value.string { data := #[105, 110] }, Value.string { data := #[99, 97, 115, 101] }, Value.string { data := #[111, 102] }] 9)).cell? ⟨w.heap.size, 0 + j, none⟩ = some (.string (wordsB.getD j ByteArray.empty)) := by
  intro j hj
  have hj' : j < 5 := hj
  match j, hj' with
  | 0, _ => simp [go_sem, wordsB]
  | 1, _ => simp [go_sem, wordsB]
  | 2, _ => simp [go_sem, wordsB]
  | 3, _ => simp [go_sem, wordsB]
  | 4, _ => simp [go_sem, wordsB]
set_option maxHeartbeats 1000000 in
theorem word_any (s : ByteArray) (w : World) :
    Calls Tryd.prog 68 #[.string s] w fun e w' => e = .returned (.bool (HLex.isWord s.data.toList)) ∧ Below w.heap.size w w' := by
  have hC := fun (W : World) (hc : ∀ j, j < wordsB.length → W.cell? ⟨w.heap.size, 0 + j, none⟩ = some (.string (wordsB.getD j ByteArray.empty))) =>
    Tryd.slices_Contains_string w.heap.size 0 5 5 wordsB s W (by decide) (by decide) hc
  rw [containsWords] at hC
  go_enter Tryd.func68, Tryd.ntmps68
  go_wp2_with (go_at_call 35; refine (hC _ (wordCells w)).mono ?_; rintro e w' ⟨rfl, rfl⟩)
  go_ret
  exact ⟨rfl, (Below.refl _ _).alloc (Nat.le_refl _) _⟩

theorem bytes_below (w : World) (e : TypeId) (s : ByteArray) : Below w.heap.size w (Lib.bytesWorld w e s) := by
  unfold Lib.bytesWorld
  exact Lib.below_freeze (((Below.refl _ w).drew).alloc (Nat.le_refl _) _) (Nat.le_refl _) _
theorem atoi_any (s : ByteArray) (n : Int) (w : World) (hl : s.size ≤ 18) (h : Lib.atoi s.data.toList = some n) :
    Calls Tryd.prog 67 #[.string s] w fun e w' => e = .returned (.tuple #[.int .i64 n, .nilIface]) ∧ Below w.heap.size w w' :=
  (Tryd.strconv_Atoi s n hl h w).mono fun e w' ⟨he, t, hw⟩ => ⟨he, by rw [hw]; exact bytes_below _ _ _⟩

def NamedPost (s : ByteArray) (w : World) (e : Ending) (w' : World) : Prop :=
  (match HLex.named s.data.toList with
    | .ok (k, n) => e = .returned (.agg #[.int .i64 (k : Int), .string s, .int .i64 (n : Int), .int .i64 0])
    | .error er => e = .panicked [{ v := .iface 65 (.agg #[.int .i64 (er : Int)]), recovered := false }]) ∧ Below w.heap.size w w'

theorem head_get (s : ByteArray) (hn : 0 < s.size) : s.data.toList.head? = some s[0] := by
  have := HLex.drop_cons_get s 0 hn
  rw [List.drop_zero] at this
  rw [this]; rfl
set_option maxHeartbeats 2000000 in
theorem named_any (s : ByteArray) (w : World) (hn : 0 < s.size) (hmax : s.size ≤ 9223372036854775807) (hw : ∀ c ∈ s.data.toList, HLex.wordly c = true) :
    Calls Tryd.prog 53 #[.string s] w (NamedPost s w) := by
  have hh := head_get s hn
  have hsz : s.data.toList.length = s.size := Array.length_toList
  have hc0 : (0 : Int) ≤ ((s[0]).toNat : Int) := by omega
  have hc1 : ((s[0]).toNat : Int) ≤ 255 := by have := (s[0]).toNat_lt; omega
  have hdg : (decide ((48 : Int) ≤ ((s[0]).toNat : Int)) && decide (((s[0]).toNat : Int) ≤ 57)) = HLex.digit s[0] := by
    unfold HLex.digit; rw [Bool.eq_iff_iff]; simp; omega
  have hup : (decide ((65 : Int) ≤ ((s[0]).toNat : Int)) && decide (((s[0]).toNat : Int) ≤ 90)) = HLex.upper s[0] := by
    unfold HLex.upper; rw [Bool.eq_iff_iff]; simp; omega
  cases hd : HLex.digit s[0]
  · have HD := Lib.hid hd
    have HDG := Lib.hid hdg
    have HUP := Lib.hid hup
    clear hdg hup
    by_cases hlen : 16 < s.size
    · have hfin : HLex.named s.data.toList = .error 11 := by
        unfold HLex.named; rw [hh]; simp [hd, hsz, hlen]
      have HF := Lib.hid hfin; clear hfin hd hh hsz hw
      go_enter Tryd.func53, Tryd.ntmps53
      go_wp2_with (first | (go_at_call 64; refine (digit_any _ _ hc0 hc1).mono ?_; rintro e w' ⟨rfl, rfl⟩; rw [HDG.out, HD.out]))
      refine (show _ ∧ _ from ⟨rfl, ?_⟩)
      unfold NamedPost
      rw [HF.out]
      exact ⟨rfl, ((Below.refl _ _).alloc (Nat.le_refl _) _).alloc (by simp) _⟩
    · have hk : ∃ k : Nat, HLex.named s.data.toList = .ok (k, 0) ∧ k = (if HLex.isWord s.data.toList then 4 else if HLex.upper s[0] then 2 else 1) := by
        unfold HLex.named; rw [hh]; simp only [Option.map_some, Option.getD_some, hd, hsz, hlen, Bool.false_eq_true, if_false]
        by_cases ha : HLex.isWord s.data.toList = true <;> by_cases hb' : HLex.upper s[0] = true <;> simp only [ha, hb', if_true, Bool.false_eq_true, if_false] <;> exact ⟨_, rfl, rfl⟩
      have HK := Lib.hid hk
      clear hk hd hh hsz hw
      cases hwd : HLex.isWord s.data.toList
      · cases hu : HLex.upper s[0]
        all_goals
          have HW := Lib.hid hwd
          have HU := Lib.hid hu
          clear hwd hu
          go_enter Tryd.func53, Tryd.ntmps53
          go_wp2_with (first | (go_at_call 64; refine (digit_any _ _ hc0 hc1).mono ?_; rintro e w' ⟨rfl, rfl⟩; rw [HDG.out, HD.out]) | (go_at_call 63; refine (upper_any _ _ hc0 hc1).mono ?_; rintro e w' ⟨rfl, rfl⟩; rw [HUP.out, HU.out]) | (go_at_call 68; refine (word_any s _).mono ?_; rintro e w' ⟨rfl, hbl⟩; rw [HW.out]; have hz := hbl.size; simp only [World.size_alloc] at hz; have hb0 := Lib.hid (blk_below (blk_alloc (blk_new w _) _) hbl); obtain ⟨hc, hf⟩ := bcell hbl; simp only [World.size_alloc] at hc hf))
          obtain ⟨kk, hk1, hk2⟩ := HK.out
          rw [HW.out, HU.out] at hk2
          simp only [Bool.false_eq_true, if_false, if_true] at hk2
          refine bodyPost_ret (v := .agg #[.int .i64 (kk : Int), .string s, .int .i64 0, .int .i64 0]) (results_cell_row rfl _ _ w.heap.size 33 #[.int .i64 (kk : Int), .string s, .int .i64 0, .int .i64 0] (0, 0) _ rfl (by rw [hk2]; exact blk_put (blk_put (blk_put (blk_put (blk_far hb0.out (by simp) _) 0 _ rfl) 1 _ rfl) 2 _ rfl) 3 _ rfl) Tryd.underlying33 rfl (by kernel_rfl)) rfl ?_
          unfold NamedPost
          rw [hk1]
          exact ⟨rfl, ((((((((Below.refl _ _).alloc (Nat.le_refl _) _).alloc (by simp) _).trans (hbl.mono (by simp; omega))).setCell (by simp) _).setCell (by simp) _).setCell (by simp) _).setCell (by simp) _).setCell (by simp) _⟩
      · have HW := Lib.hid hwd
        clear hwd
        go_enter Tryd.func53, Tryd.ntmps53
        go_wp2_with (first | (go_at_call 64; refine (digit_any _ _ hc0 hc1).mono ?_; rintro e w' ⟨rfl, rfl⟩; rw [HDG.out, HD.out]) | (go_at_call 68; refine (word_any s _).mono ?_; rintro e w' ⟨rfl, hbl⟩; rw [HW.out]; have hz := hbl.size; simp only [World.size_alloc] at hz; have hb0 := Lib.hid (blk_below (blk_alloc (blk_new w _) _) hbl); obtain ⟨hc, hf⟩ := bcell hbl; simp only [World.size_alloc] at hc hf))
        obtain ⟨kk, hk1, hk2⟩ := HK.out
        rw [HW.out] at hk2
        simp only [if_true] at hk2
        refine bodyPost_ret (v := .agg #[.int .i64 (kk : Int), .string s, .int .i64 0, .int .i64 0]) (results_cell_row rfl _ _ w.heap.size 33 #[.int .i64 (kk : Int), .string s, .int .i64 0, .int .i64 0] (0, 0) _ rfl (by rw [hk2]; exact blk_put (blk_put (blk_put (blk_put (blk_far hb0.out (by simp) _) 0 _ rfl) 1 _ rfl) 2 _ rfl) 3 _ rfl) Tryd.underlying33 rfl (by kernel_rfl)) rfl ?_
        unfold NamedPost
        rw [hk1]
        exact ⟨rfl, ((((((((Below.refl _ _).alloc (Nat.le_refl _) _).alloc (by simp) _).trans (hbl.mono (by simp; omega))).setCell (by simp) _).setCell (by simp) _).setCell (by simp) _).setCell (by simp) _).setCell (by simp) _⟩
  · cases hb : s.data.toList.any (fun c => decide (57 < c.toNat))
    · have hall : ∀ c ∈ s.data.toList, HLex.digit c = true := by
        intro c hc
        have h1 := hw c hc
        have h2 := List.any_eq_false.1 hb c hc
        simp at h2
        unfold HLex.wordly HLex.lower HLex.upper HLex.digit at h1
        unfold HLex.digit
        simp at h1 ⊢
        omega
      have hat := HLex.atoi_num s.data.toList (by intro h0; rw [h0] at hsz; simp at hsz; omega) hall
      have hfin : HLex.named s.data.toList = (if 18 < s.size ∨ 1 < s.size ∧ (s[0]).toNat = 48 then .error 11 else .ok (3, HLex.num s.data.toList)) := by
        unfold HLex.named; rw [hh]; simp only [Option.map_some, Option.getD_some, hd, hb, hsz, if_true, Bool.false_eq_true, if_false, Option.some.injEq]
        have : (s[0] = 48) ↔ (s[0]).toNat = 48 := ⟨fun h => by rw [h]; rfl, fun h => UInt8.toNat_inj.1 (by rw [h]; rfl)⟩
        simp only [this]
      have HF := Lib.hid hfin; clear hfin
      have HD := Lib.hid hd; clear hd
      have HB := Lib.hid hb; clear hb
      have HDG := Lib.hid hdg; clear hdg
      have HAT := Lib.hid hat
      clear hh hsz hw hup hall hat
      by_cases h18 : 18 < s.size
      · go_enter Tryd.func53, Tryd.ntmps53
        go_wp2_with (first | (go_at_call 64; refine (digit_any _ _ hc0 hc1).mono ?_; rintro e w' ⟨rfl, rfl⟩; rw [HDG.out, HD.out]) | (go_at_call 65; refine (containsBig_any s _).mono ?_; rintro e w' ⟨rfl, hbl⟩; rw [HB.out]))
        refine (show _ ∧ _ from ⟨rfl, ?_⟩)
        unfold NamedPost
        rw [HF.out, if_pos (.inl h18)]
        exact ⟨rfl, (((Below.refl _ _).alloc (Nat.le_refl _) _).alloc (by simp) _).trans (hbl.mono (by simp; omega))⟩
      · by_cases h1 : 1 < s.size
        · by_cases h48 : (s[0]).toNat = 48
          · have hz48 : (((s[0]).toNat : Int) == 48) = true := by simp [h48]
            have H48 := Lib.hid h48; clear h48
            go_enter Tryd.func53, Tryd.ntmps53
            go_wp2_with (first | (go_at_call 64; refine (digit_any _ _ hc0 hc1).mono ?_; rintro e w' ⟨rfl, rfl⟩; rw [HDG.out, HD.out]) | (go_at_call 65; refine (containsBig_any s _).mono ?_; rintro e w' ⟨rfl, hbl⟩; rw [HB.out]))
            refine (show _ ∧ _ from ⟨rfl, ?_⟩)
            unfold NamedPost
            rw [HF.out, if_pos (.inr ⟨h1, H48.out⟩)]
            exact ⟨rfl, (((Below.refl _ _).alloc (Nat.le_refl _) _).alloc (by simp) _).trans (hbl.mono (by simp; omega))⟩
          · have hz48 : (((s[0]).toNat : Int) == 48) = false := by simp; omega
            go_enter Tryd.func53, Tryd.ntmps53
            go_wp2_with (first | (go_at_call 64; refine (digit_any _ _ hc0 hc1).mono ?_; rintro e w' ⟨rfl, rfl⟩; rw [HDG.out, HD.out]) | (go_at_call 65; refine (containsBig_any s _).mono ?_; rintro e w' ⟨rfl, hbl⟩; rw [HB.out]; have hz := hbl.size; simp only [World.size_alloc] at hz; have hb0 := Lib.hid (blk_below (blk_alloc (blk_new w _) _) hbl); obtain ⟨hc, hf⟩ := bcell hbl; simp only [World.size_alloc] at hc hf))
            have hb1 := blk_below (blk_new ((w.alloc _)) _) hbl
            simp only [World.size_alloc] at hb1
            replace hb1 := Lib.hid hb1
            have HA := Lib.hid (atoi_any s (HLex.num s.data.toList : Int) (w'.setCell ⟨w.heap.size + 1, 0, none⟩ (.int .i64 3)) (by omega) HAT.out)
            refine HA.out.mono ?_
            rintro e w2 ⟨rfl, hb2⟩
            have hB1 := blk_below (blk_put hb1.out 0 (.int .i64 3) rfl) hb2
            have hB0 := blk_below (blk_far (p := ⟨w.heap.size + 1, 0, none⟩) hb0.out (by simp) (.int .i64 3)) hb2
            have c10 := blk_cell hB1 0; have c11 := blk_cell hB1 1; have c12 := blk_cell hB1 2; have c13 := blk_cell hB1 3
            have c00 := blk_cell hB0 0; have c01 := blk_cell hB0 1; have c02 := blk_cell hB0 2; have c03 := blk_cell hB0 3
            have z1 := fun i => blk_frozen hB1 i
            have z0 := fun i => blk_frozen hB0 i
            have HB0 := Lib.hid hB0; have HB1 := Lib.hid hB1; clear hB0 hB1 hc hf HA
            simp at c10 c11 c12 c13 c00 c01 c02 c03
            go_wp2_with fail
            refine bodyPost_ret (v := .agg #[.int .i64 3, .string s, .int .i64 (HLex.num s.data.toList : Int), .int .i64 0]) (results_cell_row rfl _ _ w.heap.size 33 #[.int .i64 3, .string s, .int .i64 (HLex.num s.data.toList : Int), .int .i64 0] (0, 0) _ rfl (blk_put (blk_put (blk_put (blk_put (blk_far HB0.out (by simp) _) 0 _ rfl) 1 _ rfl) 2 _ rfl) 3 _ rfl) Tryd.underlying33 rfl (by kernel_rfl)) rfl ?_
            unfold NamedPost
            rw [HF.out, if_neg (by omega)]
            exact ⟨rfl, below_set (below_set (below_set (below_set (below_set (below_step (below_set (below_step (below_alloc (below_alloc (Below.refl _ w) _) _) hbl) (by omega)) hb2) (by omega)) (by omega)) (by omega)) (by omega)) (by omega)⟩
        · go_enter Tryd.func53, Tryd.ntmps53
          go_wp2_with (first | (go_at_call 64; refine (digit_any _ _ hc0 hc1).mono ?_; rintro e w' ⟨rfl, rfl⟩; rw [HDG.out, HD.out]) | (go_at_call 65; refine (containsBig_any s _).mono ?_; rintro e w' ⟨rfl, hbl⟩; rw [HB.out]; have hz := hbl.size; simp only [World.size_alloc] at hz; have hb0 := Lib.hid (blk_below (blk_alloc (blk_new w _) _) hbl); obtain ⟨hc, hf⟩ := bcell hbl; simp only [World.size_alloc] at hc hf))
          have hb1 := blk_below (blk_new ((w.alloc _)) _) hbl
          simp only [World.size_alloc] at hb1
          replace hb1 := Lib.hid hb1
          have HA := Lib.hid (atoi_any s (HLex.num s.data.toList : Int) (w'.setCell ⟨w.heap.size + 1, 0, none⟩ (.int .i64 3)) (by omega) HAT.out)
          refine HA.out.mono ?_
          rintro e w2 ⟨rfl, hb2⟩
          have hB1 := blk_below (blk_put hb1.out 0 (.int .i64 3) rfl) hb2
          have hB0 := blk_below (blk_far (p := ⟨w.heap.size + 1, 0, none⟩) hb0.out (by simp) (.int .i64 3)) hb2
          have c10 := blk_cell hB1 0; have c11 := blk_cell hB1 1; have c12 := blk_cell hB1 2; have c13 := blk_cell hB1 3
          have c00 := blk_cell hB0 0; have c01 := blk_cell hB0 1; have c02 := blk_cell hB0 2; have c03 := blk_cell hB0 3
          have z1 := fun i => blk_frozen hB1 i
          have z0 := fun i => blk_frozen hB0 i
          have HB0 := Lib.hid hB0; have HB1 := Lib.hid hB1; clear hB0 hB1 hc hf HA
          simp at c10 c11 c12 c13 c00 c01 c02 c03
          go_wp2_with fail
          refine bodyPost_ret (v := .agg #[.int .i64 3, .string s, .int .i64 (HLex.num s.data.toList : Int), .int .i64 0]) (results_cell_row rfl _ _ w.heap.size 33 #[.int .i64 3, .string s, .int .i64 (HLex.num s.data.toList : Int), .int .i64 0] (0, 0) _ rfl (blk_put (blk_put (blk_put (blk_put (blk_far HB0.out (by simp) _) 0 _ rfl) 1 _ rfl) 2 _ rfl) 3 _ rfl) Tryd.underlying33 rfl (by kernel_rfl)) rfl ?_
          unfold NamedPost
          rw [HF.out, if_neg (by omega)]
          exact ⟨rfl, below_set (below_set (below_set (below_set (below_set (below_step (below_set (below_step (below_alloc (below_alloc (Below.refl _ w) _) _) hbl) (by omega)) hb2) (by omega)) (by omega)) (by omega)) (by omega)) (by omega)⟩
    · have hfin : HLex.named s.data.toList = .error 10 := by
        unfold HLex.named; rw [hh]; simp [hd, hb]
      have HF := Lib.hid hfin; clear hfin
      have HD := Lib.hid hd; clear hd
      have HB := Lib.hid hb; clear hb
      have HDG := Lib.hid hdg; clear hdg
      clear hh hsz hw hup
      go_enter Tryd.func53, Tryd.ntmps53
      go_wp2_with (first | (go_at_call 64; refine (digit_any _ _ hc0 hc1).mono ?_; rintro e w' ⟨rfl, rfl⟩; rw [HDG.out, HD.out]) | (go_at_call 65; refine (containsBig_any s _).mono ?_; rintro e w' ⟨rfl, hbl⟩; rw [HB.out]))
      refine (show _ ∧ _ from ⟨rfl, ?_⟩)
      unfold NamedPost
      rw [HF.out]
      exact ⟨rfl, (((Below.refl _ _).alloc (Nat.le_refl _) _).alloc (by simp) _).trans (hbl.mono (by simp; omega))⟩

end Go.Proofs.YthdkjfhpbigdpaaDoor.HLexC
